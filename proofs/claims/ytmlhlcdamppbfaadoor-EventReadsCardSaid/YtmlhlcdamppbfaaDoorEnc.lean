/- The contract of event.Encode, by hand. -/
import Derived.Test.YtmlhlcdamppbfaaDoorRight
import Derived.Test.YtmlhlcdamppbfaaDoorBuf
namespace Go.Proofs.YtmlhlcdamppbfaaDoor.Ext
open Go.RowKit Go.Proofs.YtmlhlcdamppbfaaDoor.Xp Go.Proofs.YtmlhlcdamppbfaaDoorW.PrintWords Go.Proofs.YtmlhlcdamppbfaaDoorW.PrintLast Go.Proofs.YtmlhlcdamppbfaaDoorW.PrintMore
set_option linter.unusedVariables false
set_option linter.unusedSimpArgs false
attribute [local go_sem] max2_int min2_int max_two min_two
/-- A text's bytes. -/
def textB (s : ByteArray) : List Int := put s.size ++ bytesOf s
/-- A number's bytes, below another one. -/
def numB (m n : Int) : List Int := (if 256 < m then [n / 256 % 256] else []) ++ (if 0 < m then [n % 256] else [])
/-- The first texts. -/
def textsB (T : Nat) (A B C D : ByteArray) : List Int := ((([A, B, C, D].take T).map textB)).flatten
def headB (k t id : Int) : List Int := [k % 256] ++ put t.toNat ++ put id.toNat
/-- An event's bytes. -/
def encF (k t id : Int) (A B C D : ByteArray) (x y z : Int) : List Int :=
  headB k t id ++ textsB (T0 k).toNat A B C D ++ numB (TN k 0) x ++ numB (TN k 1) y ++ numB (TN k 2) z
theorem tb1 (A B C D : ByteArray) : textsB 0 A B C D ++ (put A.size ++ bytesOf A) = textsB 1 A B C D := by simp [textsB, textB]
theorem tb2 (A B C D : ByteArray) : textsB 1 A B C D ++ (put B.size ++ bytesOf B) = textsB 2 A B C D := by simp [textsB, textB]
theorem tb3 (A B C D : ByteArray) : textsB 2 A B C D ++ (put C.size ++ bytesOf C) = textsB 3 A B C D := by simp [textsB, textB]
theorem tb4 (A B C D : ByteArray) : textsB 3 A B C D ++ (put D.size ++ bytesOf D) = textsB 4 A B C D := by simp [textsB, textB]
theorem textB_len (s : ByteArray) (h : (s.size : Int) ≤ 4096) : (textB s).length ≤ 4106 := by
  have := put_len10 s.size (by omega)
  unfold textB
  rw [List.length_append, bytesOf_length]; omega
theorem headB_len (k t id : Int) (ht0 : 0 ≤ t) (ht1 : t < 18446744073709551616) (hi0 : 0 ≤ id) (hi1 : id < 18446744073709551616) : (headB k t id).length ≤ 21 := by
  have := put_len10 t.toNat (by omega)
  have := put_len10 id.toNat (by omega)
  unfold headB
  simp only [List.length_append, List.length_singleton]; omega
theorem textsB_len (T : Nat) (A B C D : ByteArray) (hA : (A.size : Int) ≤ 4096) (hB : (B.size : Int) ≤ 4096) (hC : (C.size : Int) ≤ 4096) (hD : (D.size : Int) ≤ 4096) (hT : T ≤ 4) : (textsB T A B C D).length ≤ 16424 := by
  have a := textB_len A hA
  have b := textB_len B hB
  have c := textB_len C hC
  have d := textB_len D hD
  have : T = 0 ∨ T = 1 ∨ T = 2 ∨ T = 3 ∨ T = 4 := by omega
  rcases this with rfl | rfl | rfl | rfl | rfl <;> simp [textsB] <;> omega
theorem numB_len (m n : Int) : (numB m n).length ≤ 2 := by
  unfold numB
  split <;> split <;> simp
theorem pre_len (h : List Int) (N0 N1 N2 x y z : Int) (b0 b1 b2 : Prop) [Decidable b0] [Decidable b1] [Decidable b2] :
    (h ++ (if b0 then numB N0 x else []) ++ (if b1 then numB N1 y else []) ++ (if b2 then numB N2 z else [])).length ≤ h.length + 6 := by
  have n0 := numB_len N0 x
  have n1 := numB_len N1 y
  have n2 := numB_len N2 z
  simp only [List.length_append]
  split <;> split <;> split <;> (try simp only [List.length_nil]) <;> omega
theorem kind_range (k : Int) (h0 : 1 ≤ k) (h1 : k ≤ 14) : 0 ≤ T0 k ∧ T0 k ≤ 4 ∧ (∀ i, i < 3 → 0 ≤ TN k i ∧ TN k i ≤ 1000) := by
  obtain ⟨n, rfl⟩ := Int.eq_ofNat_of_zero_le (show 0 ≤ k by omega)
  have h : ∀ n : Fin 15, 0 ≤ T0 (n.val : Int) ∧ T0 (n.val : Int) ≤ 4 ∧ (∀ i : Fin 3, 0 ≤ TN (n.val : Int) i.val ∧ TN (n.val : Int) i.val ≤ 1000) := by decide +kernel
  obtain ⟨a, b, c⟩ := h ⟨n, by omega⟩
  exact ⟨a, b, fun i hi => c ⟨i, hi⟩⟩
/-- A world that holds the event and its kind. -/
structure Inv (w W : World) (g q : Nat) (cg cq : Array Value) : Prop where
  below : Below w.heap.size w W
  ev : W.heap[g]? = some (.cells cg 24 (0, 0))
  kind : W.heap[q]? = some (.cells cq 47 (0, 0))
theorem Inv.alloc {w W : World} {g q : Nat} {cg cq : Array Value} (h : Inv w W g q cg cq) (o : Obj) : Inv w (W.alloc o) g q cg cq := ⟨below_alloc h.1 _, blk_alloc h.2 _, blk_alloc h.3 _⟩
theorem Inv.drewN {w W : World} {g q : Nat} {cg cq : Array Value} (h : Inv w W g q cg cq) (n : Nat) : Inv w (W.drewN n) g q cg cq := ⟨pw_below_drewN h.1 _, h.2, h.3⟩
theorem Inv.drew {w W : World} {g q : Nat} {cg cq : Array Value} (h : Inv w W g q cg cq) : Inv w W.drew g q cg cq := ⟨pw_below_drewN h.1 1, h.2, h.3⟩
theorem Inv.stays {w W W' : World} {g q : Nat} {cg cq : Array Value} (h : Inv w W g q cg cq) (hb : Below w.heap.size w W') (hs : Stays W W') : Inv w W' g q cg cq := ⟨hb, hs _ _ _ (by decide) h.2, hs _ _ _ (by decide) h.3⟩
theorem Inv.then_ {w W W' : World} {g q : Nat} {cg cq : Array Value} (h : Inv w W g q cg cq) (hb : Below W.heap.size W W') : Inv w W' g q cg cq := h.stays (below_then h.1 h.1.size hb) (Stays.below hb)
theorem texts_w (g : Nat) (w : World) : Calls Tryd.prog 20 #[.pointer (some ⟨g, 0, none⟩)] w fun e w' => ∃ p, e = .returned (.slice (some ⟨p, 0, none⟩) 4 4) ∧ w'.heap[p]? = some (.cells #[.pointer (some ⟨g, 3, none⟩), .pointer (some ⟨g, 4, none⟩), .pointer (some ⟨g, 5, none⟩), .pointer (some ⟨g, 6, none⟩)] 53 (0, 0)) ∧ Below w.heap.size w w' := by
  refine (texts_calls g w).mono ?_
  rintro e w' ⟨rfl, rfl⟩
  exact ⟨_, rfl, blk_new _ _, pw_below_drewN (below_alloc (Below.refl _ _) _) 1⟩
theorem numbers_w (g : Nat) (w : World) : Calls Tryd.prog 22 #[.pointer (some ⟨g, 0, none⟩)] w fun e w' => ∃ p, e = .returned (.slice (some ⟨p, 0, none⟩) 3 3) ∧ w'.heap[p]? = some (.cells #[.pointer (some ⟨g, 7, none⟩), .pointer (some ⟨g, 8, none⟩), .pointer (some ⟨g, 9, none⟩)] 57 (0, 0)) ∧ Below w.heap.size w w' := by
  refine (numbers_calls g w).mono ?_
  rintro e w' ⟨rfl, rfl⟩
  exact ⟨_, rfl, blk_new _ _, pw_below_drewN (below_alloc (Below.refl _ _) _) 1⟩
theorem Buf.grown {base : Nat} {w w1 : World} {v : Value} {l : List Int} (h : Buf base w v l) (hg : w.grownBy w1 v.ownBlock) : Stays w w1 := fun g t c ht hh => by
  rw [hg.block g (Array.getElem?_eq_some_iff.1 hh).1 (Kd.R_ne h hh (fun z => ht z.symm))]; exact hh
/-- What Encode's first statement reads. -/
theorem Inv.head {w W : World} {g q : Nat} {cq : Array Value} {k t id : Int} {r : List Value} (h : Inv w W g q (.int .i64 k :: .int .u64 t :: .int .u64 id :: r).toArray cq) :
    W.cell? ⟨g, 0, none⟩ = some (.int .i64 k) ∧ W.cell? ⟨g, 1, none⟩ = some (.int .u64 t) ∧ W.cell? ⟨g, 2, none⟩ = some (.int .u64 id) ∧ Inv w W g q (.int .i64 k :: .int .u64 t :: .int .u64 id :: r).toArray cq :=
  ⟨blk_cell h.2 0, blk_cell h.2 1, blk_cell h.2 2, h⟩
/-- A row of one byte that was just laid. -/
theorem Buf.one (base : Nat) (w : World) (b : Int) (h : base ≤ w.heap.size) : Buf base (w.alloc (.cells #[.int .u8 b] 5)) (.slice (some ⟨w.heap.size, 0, none⟩) 1 1) [b] := by
  refine Buf.of (ok := fun _ => True) (Kd.R_of_own (h1 := fun _ => rfl) (xs := [b]) ?_ (fun _ _ => trivial))
  exact ⟨rfl, .inr ⟨w.heap.size, 1, #[.int .u8 b], rfl, h, blk_new _ _, Nat.le_refl _, by decide, rfl, rfl⟩⟩
theorem Buf.drew {base : Nat} {w : World} {v : Value} {l : List Int} (h : Buf base w v l) : Buf base w.drew v l := Buf.below h (pw_below_drewN (Below.refl _ _) 1)
set_option maxHeartbeats 4000000 in
set_option maxRecDepth 100000 in
theorem encode_calls (k t id : Int) (A B C D : ByteArray) (x y z : Int) (w : World) (hG : Glob w) (ht0 : 0 ≤ t) (ht1 : t < 18446744073709551616) (hi0 : 0 ≤ id) (hi1 : id < 18446744073709551616) :
    Calls Tryd.prog 13 #[.agg #[.int .i64 k, .int .u64 t, .int .u64 id, .string A, .string B, .string C, .string D, .int .i64 x, .int .i64 y, .int .i64 z]] w fun e w' =>
      ∃ v0_, e = .returned (.tuple #[v0_, .int .i64 (if rightF k id A B C D x y z then 0 else 1)]) ∧ Kd.R (Kd.int .u8) 5 w' w.heap.size (fun _ => True) v0_ (if rightF k id A B C D x y z then encF k t id A B C D x y z else []) ∧ Below w.heap.size w w' := by
  have HG := Aside0.mk hG
  clear hG
  obtain ⟨R, hR⟩ : ∃ R, rightF k id A B C D x y z = R := ⟨_, rfl⟩
  have HR := Aside0.mk hR
  rw [hR]
  cases R with
  | false =>
    clear hR
    go_enter Tryd.func13, Tryd.ntmps13
    go_wp2_with (fail)
    refine (right_calls k t id A B C D x y z _ (HG.out.alloc _)).mono ?_
    rw [HR.out]
    rintro e w1 ⟨rfl, hb⟩
    go_wp2
    go_ret2
    exact ⟨_, rfl, Kd.R_nil _ _ _ _ _, below_then (below_alloc (Below.refl _ _) _) (by simp) hb⟩
  | true =>
    unfold rightF at hR
    simp only [Bool.and_eq_true, decide_eq_true_eq, textOk, numOk] at hR
    obtain ⟨⟨⟨⟨hk0, hk1⟩, _⟩, ⟨⟨hA, hBs⟩, hC⟩, hD⟩, ⟨hx, hy⟩, hz⟩ := hR
    have hA := hA.1
    have hBs := hBs.1
    have hC := hC.1
    have hD := hD.1
    have hx := hx.1
    have hy := hy.1
    have hz := hz.1
    have hk2 : 0 ≤ k := by omega
    have hk3 : k < 15 := by omega
    go_enter Tryd.func13, Tryd.ntmps13
    go_wp2_with (fail)
    refine (right_calls k t id A B C D x y z _ (HG.out.alloc _)).mono ?_
    rw [HR.out]
    rintro e w1 ⟨rfl, hb⟩
    obtain ⟨g, hg⟩ : ∃ g, g = w.heap.size := ⟨_, rfl⟩
    have hbg : w1.heap[g]? = some (.cells #[Value.int IntKind.i64 k, Value.int IntKind.u64 t, Value.int IntKind.u64 id, Value.string A, Value.string B, Value.string C, Value.string D, Value.int IntKind.i64 x, Value.int IntKind.i64 y, Value.int IntKind.i64 z] 24 (0, 0)) := by
      rw [hb.block g (by rw [hg]; simp), hg]; exact blk_new _ _
    have hBW : Below w.heap.size w w1 := below_then (below_alloc (Below.refl _ _) _) (by simp) hb
    have HB := Aside0.mk hBW
    have HGW := Aside0.mk (HG.out.below hBW)
    obtain ⟨g0, g1, g2, g3⟩ := HGW.out.kind k hk0 hk1
    have c0 : w1.cell? ⟨g, 0, none⟩ = some (.int .i64 k) := blk_cell hbg 0
    rw [← hg]
    have HGE := Aside0.mk hg
    have Hb := Aside0.mk hbg
    clear hbg hBW hg hb
    obtain ⟨hT0, hT1, hN⟩ := kind_range k hk0 hk1
    obtain ⟨TT, hT⟩ : ∃ T, T0 k = T := ⟨_, rfl⟩
    obtain ⟨N0, hN0⟩ : ∃ T, TN k 0 = T := ⟨_, rfl⟩
    obtain ⟨N1, hN1⟩ : ∃ T, TN k 1 = T := ⟨_, rfl⟩
    obtain ⟨N2, hN2⟩ : ∃ T, TN k 2 = T := ⟨_, rfl⟩
    have hEF : encF k t id A B C D x y z = headB k t id ++ textsB TT.toNat A B C D ++ numB N0 x ++ numB N1 y ++ numB N2 z := by unfold encF; rw [hT, hN0, hN1, hN2]
    have HEF := Aside0.mk hEF
    have r0 := hN 0 (by omega)
    have r1 := hN 1 (by omega)
    have r2 := hN 2 (by omega)
    rw [hT] at g0 hT0 hT1
    rw [hN0] at g1 r0
    rw [hN1] at g2 r1
    rw [hN2] at g3 r2
    have R0 := Aside0.mk r0
    have R1 := Aside0.mk r1
    have R2 := Aside0.mk r2
    clear hT hN0 hN1 hN2 hN hEF r0 r1 r2
    obtain ⟨T, rfl⟩ := Int.eq_ofNat_of_zero_le hT0
    clear hT0
    go_wp2
    obtain ⟨q, hq⟩ : ∃ q, q = w1.heap.size := ⟨_, rfl⟩
    obtain ⟨cq, hcq⟩ : ∃ cq : Array Value, cq = #[.int .i64 (T : Int), .int .i64 N0, .int .i64 N1, .int .i64 N2] := ⟨_, rfl⟩
    have CQ := Aside0.mk hcq
    obtain ⟨W, hW⟩ : ∃ W, W = w1.alloc (Obj.cells #[.int .i64 (T : Int), .int .i64 N0, .int .i64 N1, .int .i64 N2] 47) := ⟨_, rfl⟩
    have hI : Inv w W g q (.int .i64 k :: .int .u64 t :: .int .u64 id :: [.string A, .string B, .string C, .string D, .int .i64 x, .int .i64 y, .int .i64 z]).toArray cq := by
      rw [hW, hcq, hq]
      exact ⟨below_alloc HB.out _, blk_alloc Hb.out _, blk_new _ _⟩
    have HI := Aside0.mk hI
    rw [← hW, ← hq]
    clear hcq hW hq hI Hb HB HGW g0 g1 g2 g3 c0
    go_region_held3 (fun W' => W'.cell? ⟨g, 0, none⟩ = some (.int .i64 k) ∧ W'.cell? ⟨g, 1, none⟩ = some (.int .u64 t) ∧ W'.cell? ⟨g, 2, none⟩ = some (.int .u64 id) ∧ Inv w W' g q (.int .i64 k :: .int .u64 t :: .int .u64 id :: [.string A, .string B, .string C, .string D, .int .i64 x, .int .i64 y, .int .i64 z]).toArray cq) (first | exact (Inv.drew HI.out).head | exact (Inv.drew (Inv.alloc HI.out _)).head | exact Inv.head (by assumption) | exact Inv.head (Inv.drew (by assumption))) (first | (have z_ := hI2; clear z_; go_at_call 19; refine (put_w id v2 ([IntKind.u8.wrap k] ++ put t.toNat) w _ (by first | exact hI2.below | exact (Inv.drew hI2).below) (by first | exact H2.out | exact Buf.drew H2.out) (by have := put_len10 t.toNat (by omega); simp only [List.length_append, List.length_singleton]; omega) hi0 hi1).mono ?_; rintro e w3 ⟨v3, rfl, hb3, hB3, hS3⟩; have hI3 := Inv.stays (by first | exact hI2 | exact Inv.drew hI2) hB3 hS3; have H3 := Aside0.mk hb3; clear hb3) | (go_at_call 19; refine (put_w t (.slice (some ⟨W.heap.size, 0, none⟩) 1 1) [IntKind.u8.wrap k] w _ (Inv.drew (Inv.alloc HI.out _)).below (Buf.drew (Buf.one w.heap.size W _ (Inv.below HI.out).size)) (by simp) ht0 ht1).mono ?_; rintro e w2 ⟨v2, rfl, hb2, hB2, hS2⟩; have hI2 := Inv.stays (Inv.drew (Inv.alloc HI.out _)) hB2 hS2; have H2 := Aside0.mk hb2; clear hb2))
    have HI3 := Aside0.mk hI3
    have q0 : w3.cell? ⟨q, 0, none⟩ = some (.int .i64 (T : Int)) := by rw [blk_cell hI3.kind 0, CQ.out]; rfl
    clear hI2 hI3 hB2 hS2 hB3 hS3
    rename_i hHeld_
    clear hHeld_
    go_wp2
    go_region_held3 (fun W' => W'.cell? ⟨q, 0, none⟩ = some (.int .i64 (T : Int)) ∧ Inv w W' g q (.int .i64 k :: .int .u64 t :: .int .u64 id :: [.string A, .string B, .string C, .string D, .int .i64 x, .int .i64 y, .int .i64 z]).toArray cq) (first | exact ⟨q0, Inv.drew HI3.out⟩ | exact ⟨by rw [blk_cell (Inv.kind hI4) 0, CQ.out]; rfl, hI4⟩ | exact ⟨by rw [blk_cell (Inv.kind (Inv.drew hI4)) 0, CQ.out]; rfl, Inv.drew hI4⟩) (first | (go_at_call 20; refine (texts_w g _).mono ?_; rintro e w4 ⟨p, rfl, hp4, hB4⟩; have hI4 := Inv.then_ (by first | exact Inv.drew HI3.out | exact HI3.out) hB4))
    have HBF4 := Aside0.mk (show Buf w.heap.size w4 v3 (headB k t id ++ textsB 0 A B C D) from by
      have h_ : [IntKind.u8.wrap k] ++ put t.toNat ++ put id.toNat = headB k t id ++ textsB 0 A B C D := by simp [headB, textsB, IntKind.wrap_u8]
      rw [← h_]
      first | exact Buf.below H3.out hB4 | exact Buf.below (Buf.drew H3.out) hB4)
    have HI4 := Aside0.mk hI4
    have HP4 := Aside0.mk hp4
    have hlen : ∀ i, i ≤ 4 → (headB k t id ++ textsB i A B C D).length ≤ 1000000 := by
      intro i hi
      have h1 := headB_len k t id ht0 ht1 hi0 hi1
      have h2 := textsB_len i A B C D hA hBs hC hD hi
      rw [List.length_append]; omega
    rename_i hHeld_
    clear hHeld_ hI4 hp4 hB4 q0 HI3 H3 H2 HI
    generalize IntKind.u8.wrap k = kb
    go_wp2
    go_loopg [5, 32] T (fun m v5 v32 w' => ∃ i : Nat, v32 = .int .i64 i ∧ i + m = T ∧ Aside0 (Buf w.heap.size w' v5 (headB k t id ++ textsB i A B C D)) ∧ Aside0 (Inv w w' g q (.int .i64 k :: .int .u64 t :: .int .u64 id :: [.string A, .string B, .string C, .string D, .int .i64 x, .int .i64 y, .int .i64 z]).toArray cq) ∧ Aside0 (w'.heap[p]? = some (.cells #[.pointer (some ⟨g, 3, none⟩), .pointer (some ⟨g, 4, none⟩), .pointer (some ⟨g, 5, none⟩), .pointer (some ⟨g, 6, none⟩)] 53 (0, 0))))
    case atStart => exact ⟨0, rfl, by omega, HBF4, HI4, HP4⟩
    case round =>
      obtain ⟨i, rfl, hm, HBF, HI, HP⟩ := hrel
      clear HBF4 HI4 HP4
      by_cases hi : i < T
      · have : i = 0 ∨ i = 1 ∨ i = 2 ∨ i = 3 := by omega
        rcases this with rfl | rfl | rfl | rfl
        · have p1 : wr.cell? ⟨p, 0, none⟩ = some (.pointer (some ⟨g, 3, none⟩)) := blk_cell HP.out 0
          have g1 : wr.cell? ⟨g, 3, none⟩ = some (.string A) := blk_cell (Inv.ev HI.out) 3
          go_wp2_with (fail)
          refine (putText_w A _ _ w _ (Inv.below HI.out) HBF.out (hlen 0 (by omega)) (by omega)).mono ?_
          rintro e w5 ⟨v', rfl, hb5, hB5, hS5⟩
          have HB5 := Aside0.mk hb5
          have HI5 := Aside0.mk (Inv.stays HI.out hB5 hS5)
          have HP5 := Aside0.mk (hS5 _ _ _ (by decide) HP.out)
          clear hb5 hB5 hS5 p1 g1 HI HP HBF
          go_wp2
          go_roundg (gk - 1)
          case measure => omega
          case rel => exact ⟨1, by go_num, by omega, ⟨by have h_ := HB5.out; rw [List.append_assoc, List.append_assoc, tb1] at h_; exact h_⟩, HI5, HP5⟩
        · have p1 : wr.cell? ⟨p, 1, none⟩ = some (.pointer (some ⟨g, 4, none⟩)) := blk_cell HP.out 1
          have g1 : wr.cell? ⟨g, 4, none⟩ = some (.string B) := blk_cell (Inv.ev HI.out) 4
          go_wp2_with (fail)
          refine (putText_w B _ _ w _ (Inv.below HI.out) HBF.out (hlen 1 (by omega)) (by omega)).mono ?_
          rintro e w5 ⟨v', rfl, hb5, hB5, hS5⟩
          have HB5 := Aside0.mk hb5
          have HI5 := Aside0.mk (Inv.stays HI.out hB5 hS5)
          have HP5 := Aside0.mk (hS5 _ _ _ (by decide) HP.out)
          clear hb5 hB5 hS5 p1 g1 HI HP HBF
          go_wp2
          go_roundg (gk - 1)
          case measure => omega
          case rel => exact ⟨2, by go_num, by omega, ⟨by have h_ := HB5.out; rw [List.append_assoc, List.append_assoc, tb2] at h_; exact h_⟩, HI5, HP5⟩
        · have p1 : wr.cell? ⟨p, 2, none⟩ = some (.pointer (some ⟨g, 5, none⟩)) := blk_cell HP.out 2
          have g1 : wr.cell? ⟨g, 5, none⟩ = some (.string C) := blk_cell (Inv.ev HI.out) 5
          go_wp2_with (fail)
          refine (putText_w C _ _ w _ (Inv.below HI.out) HBF.out (hlen 2 (by omega)) (by omega)).mono ?_
          rintro e w5 ⟨v', rfl, hb5, hB5, hS5⟩
          have HB5 := Aside0.mk hb5
          have HI5 := Aside0.mk (Inv.stays HI.out hB5 hS5)
          have HP5 := Aside0.mk (hS5 _ _ _ (by decide) HP.out)
          clear hb5 hB5 hS5 p1 g1 HI HP HBF
          go_wp2
          go_roundg (gk - 1)
          case measure => omega
          case rel => exact ⟨3, by go_num, by omega, ⟨by have h_ := HB5.out; rw [List.append_assoc, List.append_assoc, tb3] at h_; exact h_⟩, HI5, HP5⟩
        · have p1 : wr.cell? ⟨p, 3, none⟩ = some (.pointer (some ⟨g, 6, none⟩)) := blk_cell HP.out 3
          have g1 : wr.cell? ⟨g, 6, none⟩ = some (.string D) := blk_cell (Inv.ev HI.out) 6
          go_wp2_with (fail)
          refine (putText_w D _ _ w _ (Inv.below HI.out) HBF.out (hlen 3 (by omega)) (by omega)).mono ?_
          rintro e w5 ⟨v', rfl, hb5, hB5, hS5⟩
          have HB5 := Aside0.mk hb5
          have HI5 := Aside0.mk (Inv.stays HI.out hB5 hS5)
          have HP5 := Aside0.mk (hS5 _ _ _ (by decide) HP.out)
          clear hb5 hB5 hS5 p1 g1 HI HP HBF
          go_wp2
          go_roundg (gk - 1)
          case measure => omega
          case rel => exact ⟨4, by go_num, by omega, ⟨by have h_ := HB5.out; rw [List.append_assoc, List.append_assoc, tb4] at h_; exact h_⟩, HI5, HP5⟩
      · obtain rfl : i = T := by omega
        clear HP hm hi
        have HBF2 := HBF
        clear HBF
        have HI2 := HI
        clear HI
        go_wp2_with (fail)
        refine (numbers_w g _).mono ?_
        rintro e w6 ⟨p2, rfl, hp6, hB6⟩
        have HI6 := Aside0.mk (Inv.then_ HI2.out hB6)
        have HP6 := Aside0.mk hp6
        have HBF6 := Aside0.mk (Buf.below HBF2.out hB6)
        clear hp6 hB6 HBF2 HI2
        have hlen2 := hlen i (by omega)
        go_wp2
        go_loopg [5, 44] 3 (fun m v5 v44 w' => ∃ j : Nat, v44 = .int .i64 j ∧ j + m = 3 ∧ Aside0 (Buf w.heap.size w' v5 (headB k t id ++ textsB i A B C D ++ (if 0 < j then numB N0 x else []) ++ (if 1 < j then numB N1 y else []) ++ (if 2 < j then numB N2 z else []))) ∧ Aside0 (Inv w w' g q (.int .i64 k :: .int .u64 t :: .int .u64 id :: [.string A, .string B, .string C, .string D, .int .i64 x, .int .i64 y, .int .i64 z]).toArray cq) ∧ Aside0 (w'.heap[p2]? = some (.cells #[.pointer (some ⟨g, 7, none⟩), .pointer (some ⟨g, 8, none⟩), .pointer (some ⟨g, 9, none⟩)] 57 (0, 0))))
        case atStart => exact ⟨0, rfl, by omega, ⟨by simpa using HBF6.out⟩, HI6, HP6⟩
        case round =>
          obtain ⟨j, rfl, hm, HBF, HI, HP⟩ := hrel
          clear HBF6 HI6 HP6
          by_cases hj : j < 3
          · have : j = 0 ∨ j = 1 ∨ j = 2 := by omega
            rcases this with rfl | rfl | rfl
            · have p1 : wr.cell? ⟨p2, 0, none⟩ = some (.pointer (some ⟨g, 7, none⟩)) := blk_cell HP.out 0
              have g1 : wr.cell? ⟨g, 7, none⟩ = some (.int .i64 x) := blk_cell (Inv.ev HI.out) 7
              have q1 : wr.cell? ⟨q, 1, none⟩ = some (.int .i64 N0) := by rw [blk_cell (Inv.kind HI.out) 1, CQ.out]; rfl
              go_wp2_with (fail)
              refine (wide_calls _ _).mono ?_
              rintro e w5 ⟨rfl, rfl⟩
              by_cases c1 : 256 < N0
              · have c1b : decide (256 < N0) = true := decide_eq_true c1
                have c2 : 0 < N0 := by omega
                go_wp2_with (first | ((with_reducible refine gate_builtin (b := .append) (xs := #[.tmp 54, .tmp 60]) rfl ?_); at_builtin; refine Kd.R_append (Kd.int .u8) (w0 := w) w.heap.size rfl (.tmp 54) (.tmp 60) 27 5 (.int .u8 0) 1 rfl Tryd.underlying27 info5 rfl (by decide) (by omega) u5 (headB k t id ++ textsB i A B C D ++ (if 0 < 0 then numB N0 x else []) ++ (if 1 < 0 then numB N1 y else []) ++ (if 2 < 0 then numB N2 z else [])) (x / 256 % 256) [.int .u8 (x / 256 % 256)] (fun k_ => some k_ = (u5 : Value).ownBlock ∨ (w5 : World).heap.size ≤ k_) (fun _ => False) rfl rfl rfl (fun _ hk => hk.elim) (fun _ hk => .inr hk) (Kd.R_mono HBF.out (fun _ hk => .inl hk)) (Inv.below HI.out) (below_size (Inv.below HI.out)) (by have h_ := pre_len (headB k t id ++ textsB i A B C D) N0 N1 N2 x y z (0 < 0) (1 < 0) (2 < 0); have hl_ := hlen2; omega) ?_; intro v7 w7 ho hb hg hat; have HBF7 := Aside0.mk (Buf.of ho); have HI7 := Aside0.mk (Inv.stays HI.out hb (Buf.grown HBF.out hg)); have HP7 := Aside0.mk (Buf.grown HBF.out hg _ _ _ (by decide) HP.out); have g_w7 := blk_cell (Inv.ev HI7.out) 7; have q_w7 : World.cell? w7 ⟨q, 1, none⟩ = some (.int .i64 N0) := (by rw [blk_cell (Inv.kind HI7.out) 1, CQ.out]; rfl); clear ho hb hg hat) | ((with_reducible refine gate_builtin (b := .append) (xs := #[.tmp 67, .tmp 72]) rfl ?_); at_builtin; refine Kd.R_append (Kd.int .u8) (w0 := w) w.heap.size rfl (.tmp 67) (.tmp 72) 27 5 (.int .u8 0) 1 rfl Tryd.underlying27 info5 rfl (by decide) (by omega) v7 (headB k t id ++ textsB i A B C D ++ (if 0 < 0 then numB N0 x else []) ++ (if 1 < 0 then numB N1 y else []) ++ (if 2 < 0 then numB N2 z else []) ++ [(x / 256 % 256)]) (x % 256) [.int .u8 (x % 256)] (fun k_ => some k_ = (v7 : Value).ownBlock ∨ (w7 : World).heap.size ≤ k_) (fun _ => False) rfl rfl rfl (fun _ hk => hk.elim) (fun _ hk => .inr hk) (Kd.R_mono HBF7.out (fun _ hk => .inl hk)) (Inv.below HI7.out) (below_size (Inv.below HI7.out)) (by have h_ := pre_len (headB k t id ++ textsB i A B C D) N0 N1 N2 x y z (0 < 0) (1 < 0) (2 < 0); simp only [List.length_append (bs := [_]), List.length_singleton]; have hl_ := hlen2; omega) ?_; intro v8 w8 ho hb hg hat; have HBF8 := Aside0.mk (Buf.of ho); have HI8 := Aside0.mk (Inv.stays HI7.out hb (Buf.grown HBF7.out hg)); have HP8 := Aside0.mk (Buf.grown HBF7.out hg _ _ _ (by decide) HP7.out); have g_w8 := blk_cell (Inv.ev HI8.out) 7; have q_w8 : World.cell? w8 ⟨q, 1, none⟩ = some (.int .i64 N0) := (by rw [blk_cell (Inv.kind HI8.out) 1, CQ.out]; rfl); clear ho hb hg hat))
                go_roundg (gk - 1)
                case measure => omega
                case rel => exact ⟨1, by go_num, by omega, ⟨by have h_ := HBF8.out; have e_ : numB N0 x = [(x / 256 % 256)] ++ [(x % 256)] := (by simp [numB, IntKind.wrap_u8, c1, c2]); simp only [e_]; simpa using h_⟩, HI8, HP8⟩
              · have c1b : decide (256 < N0) = false := decide_eq_false c1
                by_cases c2 : 0 < N0
                · go_wp2_with (first | ((with_reducible refine gate_builtin (b := .append) (xs := #[.tmp 67, .tmp 72]) rfl ?_); at_builtin; refine Kd.R_append (Kd.int .u8) (w0 := w) w.heap.size rfl (.tmp 67) (.tmp 72) 27 5 (.int .u8 0) 1 rfl Tryd.underlying27 info5 rfl (by decide) (by omega) u5 (headB k t id ++ textsB i A B C D ++ (if 0 < 0 then numB N0 x else []) ++ (if 1 < 0 then numB N1 y else []) ++ (if 2 < 0 then numB N2 z else [])) (x % 256) [.int .u8 (x % 256)] (fun k_ => some k_ = (u5 : Value).ownBlock ∨ (w5 : World).heap.size ≤ k_) (fun _ => False) rfl rfl rfl (fun _ hk => hk.elim) (fun _ hk => .inr hk) (Kd.R_mono HBF.out (fun _ hk => .inl hk)) (Inv.below HI.out) (below_size (Inv.below HI.out)) (by have h_ := pre_len (headB k t id ++ textsB i A B C D) N0 N1 N2 x y z (0 < 0) (1 < 0) (2 < 0); have hl_ := hlen2; omega) ?_; intro v8 w8 ho hb hg hat; have HBF8 := Aside0.mk (Buf.of ho); have HI8 := Aside0.mk (Inv.stays HI.out hb (Buf.grown HBF.out hg)); have HP8 := Aside0.mk (Buf.grown HBF.out hg _ _ _ (by decide) HP.out); have g_w8 := blk_cell (Inv.ev HI8.out) 7; have q_w8 : World.cell? w8 ⟨q, 1, none⟩ = some (.int .i64 N0) := (by rw [blk_cell (Inv.kind HI8.out) 1, CQ.out]; rfl); clear ho hb hg hat))
                  go_roundg (gk - 1)
                  case measure => omega
                  case rel => exact ⟨1, by go_num, by omega, ⟨by have h_ := HBF8.out; have e_ : numB N0 x = [(x % 256)] := (by simp [numB, IntKind.wrap_u8, c1, c2]); simp only [e_]; simpa using h_⟩, HI8, HP8⟩
                · go_wp2
                  go_roundg (gk - 1)
                  case measure => omega
                  case rel => exact ⟨1, by go_num, by omega, ⟨by have h_ := HBF.out; have e_ : numB N0 x = [] := (by simp [numB, IntKind.wrap_u8, c1, c2]); simp only [e_]; simpa using h_⟩, HI, HP⟩
            · have p1 : wr.cell? ⟨p2, 1, none⟩ = some (.pointer (some ⟨g, 8, none⟩)) := blk_cell HP.out 1
              have g1 : wr.cell? ⟨g, 8, none⟩ = some (.int .i64 y) := blk_cell (Inv.ev HI.out) 8
              have q1 : wr.cell? ⟨q, 2, none⟩ = some (.int .i64 N1) := by rw [blk_cell (Inv.kind HI.out) 2, CQ.out]; rfl
              go_wp2_with (fail)
              refine (wide_calls _ _).mono ?_
              rintro e w5 ⟨rfl, rfl⟩
              by_cases c1 : 256 < N1
              · have c1b : decide (256 < N1) = true := decide_eq_true c1
                have c2 : 0 < N1 := by omega
                go_wp2_with (first | ((with_reducible refine gate_builtin (b := .append) (xs := #[.tmp 54, .tmp 60]) rfl ?_); at_builtin; refine Kd.R_append (Kd.int .u8) (w0 := w) w.heap.size rfl (.tmp 54) (.tmp 60) 27 5 (.int .u8 0) 1 rfl Tryd.underlying27 info5 rfl (by decide) (by omega) u5 (headB k t id ++ textsB i A B C D ++ (if 0 < 1 then numB N0 x else []) ++ (if 1 < 1 then numB N1 y else []) ++ (if 2 < 1 then numB N2 z else [])) (y / 256 % 256) [.int .u8 (y / 256 % 256)] (fun k_ => some k_ = (u5 : Value).ownBlock ∨ (w5 : World).heap.size ≤ k_) (fun _ => False) rfl rfl rfl (fun _ hk => hk.elim) (fun _ hk => .inr hk) (Kd.R_mono HBF.out (fun _ hk => .inl hk)) (Inv.below HI.out) (below_size (Inv.below HI.out)) (by have h_ := pre_len (headB k t id ++ textsB i A B C D) N0 N1 N2 x y z (0 < 1) (1 < 1) (2 < 1); have hl_ := hlen2; omega) ?_; intro v7 w7 ho hb hg hat; have HBF7 := Aside0.mk (Buf.of ho); have HI7 := Aside0.mk (Inv.stays HI.out hb (Buf.grown HBF.out hg)); have HP7 := Aside0.mk (Buf.grown HBF.out hg _ _ _ (by decide) HP.out); have g_w7 := blk_cell (Inv.ev HI7.out) 8; have q_w7 : World.cell? w7 ⟨q, 2, none⟩ = some (.int .i64 N1) := (by rw [blk_cell (Inv.kind HI7.out) 2, CQ.out]; rfl); clear ho hb hg hat) | ((with_reducible refine gate_builtin (b := .append) (xs := #[.tmp 67, .tmp 72]) rfl ?_); at_builtin; refine Kd.R_append (Kd.int .u8) (w0 := w) w.heap.size rfl (.tmp 67) (.tmp 72) 27 5 (.int .u8 0) 1 rfl Tryd.underlying27 info5 rfl (by decide) (by omega) v7 (headB k t id ++ textsB i A B C D ++ (if 0 < 1 then numB N0 x else []) ++ (if 1 < 1 then numB N1 y else []) ++ (if 2 < 1 then numB N2 z else []) ++ [(y / 256 % 256)]) (y % 256) [.int .u8 (y % 256)] (fun k_ => some k_ = (v7 : Value).ownBlock ∨ (w7 : World).heap.size ≤ k_) (fun _ => False) rfl rfl rfl (fun _ hk => hk.elim) (fun _ hk => .inr hk) (Kd.R_mono HBF7.out (fun _ hk => .inl hk)) (Inv.below HI7.out) (below_size (Inv.below HI7.out)) (by have h_ := pre_len (headB k t id ++ textsB i A B C D) N0 N1 N2 x y z (0 < 1) (1 < 1) (2 < 1); simp only [List.length_append (bs := [_]), List.length_singleton]; have hl_ := hlen2; omega) ?_; intro v8 w8 ho hb hg hat; have HBF8 := Aside0.mk (Buf.of ho); have HI8 := Aside0.mk (Inv.stays HI7.out hb (Buf.grown HBF7.out hg)); have HP8 := Aside0.mk (Buf.grown HBF7.out hg _ _ _ (by decide) HP7.out); have g_w8 := blk_cell (Inv.ev HI8.out) 8; have q_w8 : World.cell? w8 ⟨q, 2, none⟩ = some (.int .i64 N1) := (by rw [blk_cell (Inv.kind HI8.out) 2, CQ.out]; rfl); clear ho hb hg hat))
                go_roundg (gk - 1)
                case measure => omega
                case rel => exact ⟨2, by go_num, by omega, ⟨by have h_ := HBF8.out; have e_ : numB N1 y = [(y / 256 % 256)] ++ [(y % 256)] := (by simp [numB, IntKind.wrap_u8, c1, c2]); simp only [e_]; simpa using h_⟩, HI8, HP8⟩
              · have c1b : decide (256 < N1) = false := decide_eq_false c1
                by_cases c2 : 0 < N1
                · go_wp2_with (first | ((with_reducible refine gate_builtin (b := .append) (xs := #[.tmp 67, .tmp 72]) rfl ?_); at_builtin; refine Kd.R_append (Kd.int .u8) (w0 := w) w.heap.size rfl (.tmp 67) (.tmp 72) 27 5 (.int .u8 0) 1 rfl Tryd.underlying27 info5 rfl (by decide) (by omega) u5 (headB k t id ++ textsB i A B C D ++ (if 0 < 1 then numB N0 x else []) ++ (if 1 < 1 then numB N1 y else []) ++ (if 2 < 1 then numB N2 z else [])) (y % 256) [.int .u8 (y % 256)] (fun k_ => some k_ = (u5 : Value).ownBlock ∨ (w5 : World).heap.size ≤ k_) (fun _ => False) rfl rfl rfl (fun _ hk => hk.elim) (fun _ hk => .inr hk) (Kd.R_mono HBF.out (fun _ hk => .inl hk)) (Inv.below HI.out) (below_size (Inv.below HI.out)) (by have h_ := pre_len (headB k t id ++ textsB i A B C D) N0 N1 N2 x y z (0 < 1) (1 < 1) (2 < 1); have hl_ := hlen2; omega) ?_; intro v8 w8 ho hb hg hat; have HBF8 := Aside0.mk (Buf.of ho); have HI8 := Aside0.mk (Inv.stays HI.out hb (Buf.grown HBF.out hg)); have HP8 := Aside0.mk (Buf.grown HBF.out hg _ _ _ (by decide) HP.out); have g_w8 := blk_cell (Inv.ev HI8.out) 8; have q_w8 : World.cell? w8 ⟨q, 2, none⟩ = some (.int .i64 N1) := (by rw [blk_cell (Inv.kind HI8.out) 2, CQ.out]; rfl); clear ho hb hg hat))
                  go_roundg (gk - 1)
                  case measure => omega
                  case rel => exact ⟨2, by go_num, by omega, ⟨by have h_ := HBF8.out; have e_ : numB N1 y = [(y % 256)] := (by simp [numB, IntKind.wrap_u8, c1, c2]); simp only [e_]; simpa using h_⟩, HI8, HP8⟩
                · go_wp2
                  go_roundg (gk - 1)
                  case measure => omega
                  case rel => exact ⟨2, by go_num, by omega, ⟨by have h_ := HBF.out; have e_ : numB N1 y = [] := (by simp [numB, IntKind.wrap_u8, c1, c2]); simp only [e_]; simpa using h_⟩, HI, HP⟩
            · have p1 : wr.cell? ⟨p2, 2, none⟩ = some (.pointer (some ⟨g, 9, none⟩)) := blk_cell HP.out 2
              have g1 : wr.cell? ⟨g, 9, none⟩ = some (.int .i64 z) := blk_cell (Inv.ev HI.out) 9
              have q1 : wr.cell? ⟨q, 3, none⟩ = some (.int .i64 N2) := by rw [blk_cell (Inv.kind HI.out) 3, CQ.out]; rfl
              go_wp2_with (fail)
              refine (wide_calls _ _).mono ?_
              rintro e w5 ⟨rfl, rfl⟩
              by_cases c1 : 256 < N2
              · have c1b : decide (256 < N2) = true := decide_eq_true c1
                have c2 : 0 < N2 := by omega
                go_wp2_with (first | ((with_reducible refine gate_builtin (b := .append) (xs := #[.tmp 54, .tmp 60]) rfl ?_); at_builtin; refine Kd.R_append (Kd.int .u8) (w0 := w) w.heap.size rfl (.tmp 54) (.tmp 60) 27 5 (.int .u8 0) 1 rfl Tryd.underlying27 info5 rfl (by decide) (by omega) u5 (headB k t id ++ textsB i A B C D ++ (if 0 < 2 then numB N0 x else []) ++ (if 1 < 2 then numB N1 y else []) ++ (if 2 < 2 then numB N2 z else [])) (z / 256 % 256) [.int .u8 (z / 256 % 256)] (fun k_ => some k_ = (u5 : Value).ownBlock ∨ (w5 : World).heap.size ≤ k_) (fun _ => False) rfl rfl rfl (fun _ hk => hk.elim) (fun _ hk => .inr hk) (Kd.R_mono HBF.out (fun _ hk => .inl hk)) (Inv.below HI.out) (below_size (Inv.below HI.out)) (by have h_ := pre_len (headB k t id ++ textsB i A B C D) N0 N1 N2 x y z (0 < 2) (1 < 2) (2 < 2); have hl_ := hlen2; omega) ?_; intro v7 w7 ho hb hg hat; have HBF7 := Aside0.mk (Buf.of ho); have HI7 := Aside0.mk (Inv.stays HI.out hb (Buf.grown HBF.out hg)); have HP7 := Aside0.mk (Buf.grown HBF.out hg _ _ _ (by decide) HP.out); have g_w7 := blk_cell (Inv.ev HI7.out) 9; have q_w7 : World.cell? w7 ⟨q, 3, none⟩ = some (.int .i64 N2) := (by rw [blk_cell (Inv.kind HI7.out) 3, CQ.out]; rfl); clear ho hb hg hat) | ((with_reducible refine gate_builtin (b := .append) (xs := #[.tmp 67, .tmp 72]) rfl ?_); at_builtin; refine Kd.R_append (Kd.int .u8) (w0 := w) w.heap.size rfl (.tmp 67) (.tmp 72) 27 5 (.int .u8 0) 1 rfl Tryd.underlying27 info5 rfl (by decide) (by omega) v7 (headB k t id ++ textsB i A B C D ++ (if 0 < 2 then numB N0 x else []) ++ (if 1 < 2 then numB N1 y else []) ++ (if 2 < 2 then numB N2 z else []) ++ [(z / 256 % 256)]) (z % 256) [.int .u8 (z % 256)] (fun k_ => some k_ = (v7 : Value).ownBlock ∨ (w7 : World).heap.size ≤ k_) (fun _ => False) rfl rfl rfl (fun _ hk => hk.elim) (fun _ hk => .inr hk) (Kd.R_mono HBF7.out (fun _ hk => .inl hk)) (Inv.below HI7.out) (below_size (Inv.below HI7.out)) (by have h_ := pre_len (headB k t id ++ textsB i A B C D) N0 N1 N2 x y z (0 < 2) (1 < 2) (2 < 2); simp only [List.length_append (bs := [_]), List.length_singleton]; have hl_ := hlen2; omega) ?_; intro v8 w8 ho hb hg hat; have HBF8 := Aside0.mk (Buf.of ho); have HI8 := Aside0.mk (Inv.stays HI7.out hb (Buf.grown HBF7.out hg)); have HP8 := Aside0.mk (Buf.grown HBF7.out hg _ _ _ (by decide) HP7.out); have g_w8 := blk_cell (Inv.ev HI8.out) 9; have q_w8 : World.cell? w8 ⟨q, 3, none⟩ = some (.int .i64 N2) := (by rw [blk_cell (Inv.kind HI8.out) 3, CQ.out]; rfl); clear ho hb hg hat))
                go_roundg (gk - 1)
                case measure => omega
                case rel => exact ⟨3, by go_num, by omega, ⟨by have h_ := HBF8.out; have e_ : numB N2 z = [(z / 256 % 256)] ++ [(z % 256)] := (by simp [numB, IntKind.wrap_u8, c1, c2]); simp only [e_]; simpa using h_⟩, HI8, HP8⟩
              · have c1b : decide (256 < N2) = false := decide_eq_false c1
                by_cases c2 : 0 < N2
                · go_wp2_with (first | ((with_reducible refine gate_builtin (b := .append) (xs := #[.tmp 67, .tmp 72]) rfl ?_); at_builtin; refine Kd.R_append (Kd.int .u8) (w0 := w) w.heap.size rfl (.tmp 67) (.tmp 72) 27 5 (.int .u8 0) 1 rfl Tryd.underlying27 info5 rfl (by decide) (by omega) u5 (headB k t id ++ textsB i A B C D ++ (if 0 < 2 then numB N0 x else []) ++ (if 1 < 2 then numB N1 y else []) ++ (if 2 < 2 then numB N2 z else [])) (z % 256) [.int .u8 (z % 256)] (fun k_ => some k_ = (u5 : Value).ownBlock ∨ (w5 : World).heap.size ≤ k_) (fun _ => False) rfl rfl rfl (fun _ hk => hk.elim) (fun _ hk => .inr hk) (Kd.R_mono HBF.out (fun _ hk => .inl hk)) (Inv.below HI.out) (below_size (Inv.below HI.out)) (by have h_ := pre_len (headB k t id ++ textsB i A B C D) N0 N1 N2 x y z (0 < 2) (1 < 2) (2 < 2); have hl_ := hlen2; omega) ?_; intro v8 w8 ho hb hg hat; have HBF8 := Aside0.mk (Buf.of ho); have HI8 := Aside0.mk (Inv.stays HI.out hb (Buf.grown HBF.out hg)); have HP8 := Aside0.mk (Buf.grown HBF.out hg _ _ _ (by decide) HP.out); have g_w8 := blk_cell (Inv.ev HI8.out) 9; have q_w8 : World.cell? w8 ⟨q, 3, none⟩ = some (.int .i64 N2) := (by rw [blk_cell (Inv.kind HI8.out) 3, CQ.out]; rfl); clear ho hb hg hat))
                  go_roundg (gk - 1)
                  case measure => omega
                  case rel => exact ⟨3, by go_num, by omega, ⟨by have h_ := HBF8.out; have e_ : numB N2 z = [(z % 256)] := (by simp [numB, IntKind.wrap_u8, c1, c2]); simp only [e_]; simpa using h_⟩, HI8, HP8⟩
                · go_wp2
                  go_roundg (gk - 1)
                  case measure => omega
                  case rel => exact ⟨3, by go_num, by omega, ⟨by have h_ := HBF.out; have e_ : numB N2 z = [] := (by simp [numB, IntKind.wrap_u8, c1, c2]); simp only [e_]; simpa using h_⟩, HI, HP⟩
          · obtain rfl : j = 3 := by omega
            go_wp2
            go_ret2
            refine ⟨_, rfl, ?_, Inv.below HI.out⟩
            have h_ := HBF.out
            simp only [show (0 : Nat) < 3 by decide, show (1 : Nat) < 3 by decide, show (2 : Nat) < 3 by decide, if_true] at h_
            show Kd.R (Kd.int .u8) 5 _ _ _ _ (encF k t id A B C D x y z)
            rw [HEF.out]
            exact Kd.R_mono h_ (fun _ _ => trivial)
end Go.Proofs.YtmlhlcdamppbfaaDoor.Ext
