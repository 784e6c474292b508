/- The contract of the reference's Decode, by hand: its ways out, one by one. -/
import Derived.Test.YtmlhlcdamppbfaaDoorEvW
import Derived.Test.YtmlhlcdamppbfaaDoorEvX
namespace Go.Proofs.YtmlhlcdamppbfaaDoor.Xa
open Go.RowKit Go.Proofs.YtmlhlcdamppbfaaDoor.Ext Go.Proofs.YtmlhlcdamppbfaaDoor.Pure Go.Proofs.YtmlhlcdamppbfaaDoorW.PrintWords Go.Proofs.YtmlhlcdamppbfaaDoorW.PrintLast Go.Proofs.YtmlhlcdamppbfaaDoorW.PrintMore
attribute [local go_sem] max2_int min2_int max_two min_two max_three min_three max_four min_four
set_option linter.unusedVariables false
set_option linter.unusedSimpArgs false
theorem Box.drawn {w W W' : World} {g : Nat} {c : Array Value} (b : Box w W g c) (h : Drawn0 W W') : Box w W' g c := b.then_ h.below
theorem thenRet {K : Act → World → Prop} {Q : Exit → Act → World → Prop} {a : Act} {w : World} (h : Q .ret a w) : Exit.then K Q .ret a w := h
theorem blockRet {i : Nat} {Q : Exit → Act → World → Prop} {a : Act} {w : World} (h : Q .ret a w) : Exit.inBlock i Q .ret a w := h
/-- A region that a return follows: only the return counts. -/
theorem exit_region {P : Program} {c : Code} {K : Act → World → Prop} {Q : Exit → Act → World → Prop} {a : Act} {w : World} (B : Act → World → Prop) (hK : ∀ a w, Code.ret.wp P Q a w → K a w) (hQ : ∀ a w, B a w → Q .ret a w)
    (h : c.wp P (Exit.then B (fun _ _ _ => False)) a w) : c.wp P (Exit.then K Q) a w :=
  Go.wp_mono h (fun e a w he => by cases e <;> first | exact hK a w (Go.wp_ret (hQ a w he)) | exact he.elim)
def tx (V : Nat → ByteArray) (i j : Nat) : ByteArray := if j < i then V j else ⟨#[]⟩
structure TBox (w W : World) (r : Nat) (v0 v1 v2 v3 : ByteArray) : Prop where
  base : w.heap.size ≤ r
  blk : W.heap[r]? = some (.cells #[.string v0, .string v1, .string v2, .string v3] 9 (0, 0))
theorem TBox.then_ {w W W' : World} {r : Nat} {v0 v1 v2 v3 : ByteArray} (b : TBox w W r v0 v1 v2 v3) (hb : Below W.heap.size W W') : TBox w W' r v0 v1 v2 v3 := ⟨b.base, blk_below b.blk hb⟩
theorem TBox.far {w W : World} {r h : Nat} {v0 v1 v2 v3 : ByteArray} (b : TBox w W r v0 v1 v2 v3) (hn : r ≠ h) (j : Nat) (v : Value) : TBox w (W.setCell ⟨h, j, none⟩ v) r v0 v1 v2 v3 := ⟨b.base, blk_far b.blk hn v⟩
theorem TBox.at_ {w W : World} {r i : Nat} {V : Nat → ByteArray} (b : TBox w W r (tx V i 0) (tx V i 1) (tx V i 2) (tx V i 3)) (hi : i < 4) : W.cell? ⟨r, i, none⟩ = some (.string (tx V i i)) := by
  have : i = 0 ∨ i = 1 ∨ i = 2 ∨ i = 3 := by omega
  rcases this with rfl | rfl | rfl | rfl <;> exact blk_cell b.blk _
theorem TBox.put {w W : World} {r i : Nat} {V : Nat → ByteArray} (b : TBox w W r (tx V i 0) (tx V i 1) (tx V i 2) (tx V i 3)) (hi : i < 4) : TBox w (W.setCell ⟨r, i, none⟩ (.string (V i))) r (tx V (i + 1) 0) (tx V (i + 1) 1) (tx V (i + 1) 2) (tx V (i + 1) 3) := by
  refine ⟨b.base, ?_⟩
  have : i = 0 ∨ i = 1 ∨ i = 2 ∨ i = 3 := by omega
  rcases this with rfl | rfl | rfl | rfl <;> exact blk_put b.blk _ _ (by simp [tx])
def nm (Y : Nat → Int) (i j : Nat) : Int := if j < i then Y j else 0
structure NBox (w W : World) (r : Nat) (v0 v1 v2 : Int) : Prop where
  base : w.heap.size ≤ r
  blk : W.heap[r]? = some (.cells #[.int .i64 v0, .int .i64 v1, .int .i64 v2] 3 (0, 0))
theorem NBox.then_ {w W W' : World} {r : Nat} {v0 v1 v2 : Int} (b : NBox w W r v0 v1 v2) (hb : Below W.heap.size W W') : NBox w W' r v0 v1 v2 := ⟨b.base, blk_below b.blk hb⟩
theorem NBox.far {w W : World} {r h : Nat} {v0 v1 v2 : Int} (b : NBox w W r v0 v1 v2) (hn : r ≠ h) (j : Nat) (v : Value) : NBox w (W.setCell ⟨h, j, none⟩ v) r v0 v1 v2 := ⟨b.base, blk_far b.blk hn v⟩
theorem NBox.at_ {w W : World} {r i : Nat} {Y : Nat → Int} (b : NBox w W r (nm Y i 0) (nm Y i 1) (nm Y i 2)) (hi : i < 3) : W.cell? ⟨r, i, none⟩ = some (.int .i64 (nm Y i i)) := by
  have : i = 0 ∨ i = 1 ∨ i = 2 := by omega
  rcases this with rfl | rfl | rfl <;> exact blk_cell b.blk _
theorem NBox.put {w W : World} {r i : Nat} {Y : Nat → Int} (b : NBox w W r (nm Y i 0) (nm Y i 1) (nm Y i 2)) (hi : i < 3) : NBox w (W.setCell ⟨r, i, none⟩ (.int .i64 (Y i))) r (nm Y (i + 1) 0) (nm Y (i + 1) 1) (nm Y (i + 1) 2) := by
  refine ⟨b.base, ?_⟩
  have : i = 0 ∨ i = 1 ∨ i = 2 := by omega
  rcases this with rfl | rfl | rfl <;> exact blk_put b.blk _ _ (by simp [nm])
end Go.Proofs.YtmlhlcdamppbfaaDoor.Xa
namespace Go.Proofs.YtmlhlcdamppbfaaDoor.Xa
open Go.RowKit Go.Proofs.YtmlhlcdamppbfaaDoor.Ext Go.Proofs.YtmlhlcdamppbfaaDoor.Pure Go.Proofs.YtmlhlcdamppbfaaDoorW.PrintWords Go.Proofs.YtmlhlcdamppbfaaDoorW.PrintLast Go.Proofs.YtmlhlcdamppbfaaDoorW.PrintMore
attribute [local go_sem] max2_int min2_int max_two min_two max_three min_three max_four min_four
set_option linter.unusedVariables false
set_option linter.unusedSimpArgs false
set_option maxHeartbeats 2000000 in
set_option maxRecDepth 100000 in
theorem dec_empty (s : ByteArray) (hs : s.toList = []) (w : World) :
    Calls Tryd.prog 18 #[.string s] w fun e w' => e = .returned (.tuple #[.agg (ten 0 0 0 E0 E0 E0 E0 0 0 0), .int .i64 0, .int .i64 2]) ∧ Below w.heap.size w w' := by
  have hs1 : s.toList.isEmpty = true := by rw [hs]; rfl
  go_enter Tryd.func18, Tryd.ntmps18
  go_upto_if 31 with (fail)
  obtain ⟨g, hg⟩ : ∃ g, g = w.heap.size := ⟨_, rfl⟩
  obtain ⟨p, hp⟩ : ∃ p, p = w.heap.size + 1 := ⟨_, rfl⟩
  obtain ⟨W1, hW1⟩ : ∃ W, W = (w.alloc (.cells (ten 0 0 0 E0 E0 E0 E0 0 0 0) 24)).alloc (.cells (ten 0 0 0 E0 E0 E0 E0 0 0 0) 24) := ⟨_, rfl⟩
  rw [← hW1, ← hp, ← hg]
  have A := Aside0.mk (show Box w W1 g (ten 0 0 0 E0 E0 E0 E0 0 0 0) by rw [hW1, hg]; exact (Box.new (Nat.le_refl _) _).alloc _)
  have B := Aside0.mk (show Box w W1 p (ten 0 0 0 E0 E0 E0 E0 0 0 0) by
    have e : p = (w.alloc (.cells (ten 0 0 0 E0 E0 E0 E0 0 0 0) 24)).heap.size := by rw [hp]; simp
    rw [hW1, e]; exact Box.new (by simp) _)
  have D := Aside0.mk (show Below w.heap.size w W1 by rw [hW1]; exact below_alloc (below_alloc (Below.refl _ _) _) _)
  have NE := Aside0.mk (show g ≠ p by omega)
  clear hW1 hg hp
  go_upto_region 3 with (fail)
  obtain ⟨BB, hBB⟩ : ∃ BB : Act → World → Prop, BB = fun a w' => bodyPost Tryd.prog Tryd.f18 (fun e w' => e = .returned (.tuple #[.agg (ten 0 0 0 E0 E0 E0 E0 0 0 0), .int .i64 0, .int .i64 2]) ∧ Below w.heap.size w w') Exit.ret a w' := ⟨_, rfl⟩
  have HBB := Aside0.mk hBB
  clear hBB
  refine exit_region BB (by assumption) (fun a w' h => by rw [HBB.out] at h; (repeat (first | (with_reducible refine thenRet ?_) | (with_reducible refine blockRet ?_))); exact h) ?_
  go_wp2_with (first | ((with_reducible refine gate_dst (N := 32) rfl ?_); refine wpList_load_row ?hgd_32 24 (.tmp 5) ?ho_32 p ?hx_32 ?t_32 ?cs_32 ?fr_32 ?d_32 ?hg_32 ?hu_32 ?hd_32 ?hi_32 ?_; (case hgd_32 => rfl); (case ho_32 => rfl); (case hx_32 => rfl); (case hg_32 => exact B.out.blk); (case hu_32 => exact Tryd.underlying24); (case hd_32 => rfl); (case hi_32 => exact size24)) | ((with_reducible refine gate_store (p := 2) rfl ?_); refine wpList_store_row ?hgd_s32 24 (.tmp 2) (.tmp 32) ?ho_s32 g (ten 0 0 0 E0 E0 E0 E0 0 0 0) ?hx_s32 ?hy_s32 ?t_s32 ?old_s32 ?hg_s32 ?hi_s32 ?hold_s32 ?h1_s32 ?_; (case hgd_s32 => rfl); (case ho_s32 => rfl); (case hx_s32 => rfl); (case hy_s32 => rfl); (case hg_s32 => exact A.out.blk); (case hi_s32 => exact size24); (case hold_s32 => rfl); (case h1_s32 => exact ten_one _ _ _ _ _ _ _ _ _ _); have n0_ := Aside0.mk (setRow_below D.out A.out.base (ten 0 0 0 E0 E0 E0 E0 0 0 0)); have n1_ := Aside0.mk (Box.row A.out (ten 0 0 0 E0 E0 E0 E0 0 0 0)); have n2_ := Aside0.mk (Box.row_far B.out NE.out.symm (ten 0 0 0 E0 E0 E0 E0 0 0 0)); clear D; clear A; clear B; have D := n0_; have A := n1_; have B := n2_; clear n0_ n1_ n2_))
  rw [HBB.out]
  show bodyPost Tryd.prog Tryd.f18 _ Exit.ret _ _
  refine bodyPost_ret (results_cell3 (p := 2) (u := 3) (q := 4) rfl _ _ g 24 _ (0, 0) _ rfl A.out.blk Tryd.underlying24 rfl size24) rfl ?_
  exact ⟨rfl, D.out⟩
set_option maxHeartbeats 2000000 in
set_option maxRecDepth 100000 in
theorem dec_kind (s : ByteArray) (c : Int) (k0 : Nat) (hs : s.toList.isEmpty = false) (hz : 0 < s.size) (hmx : s.size ≤ 100000) (hc : ∀ h : 0 < s.size, ((s[0]'h).toNat : Int) = c) (hc0 : 0 ≤ c) (hc1 : c < 256) (hsh : transeptref05_Shape.f k0 c = some ⟨#[45]⟩) (w : World) :
    Calls Tryd.prog 18 #[.string s] w fun e w' => e = .returned (.tuple #[.agg (ten 0 0 0 E0 E0 E0 E0 0 0 0), .int .i64 0, .int .i64 3]) ∧ Below w.heap.size w w' := by
  have hs2 : (s.toList == ([] : List UInt8)) = false := by rw [beq_eq_false_iff_ne]; intro e; rw [e] at hs; simp at hs
  have HSH := Aside0.mk hsh
  clear hsh
  go_enter Tryd.func18, Tryd.ntmps18
  go_upto_if 31 with (fail)
  obtain ⟨g, hg⟩ : ∃ g, g = w.heap.size := ⟨_, rfl⟩
  obtain ⟨p, hp⟩ : ∃ p, p = w.heap.size + 1 := ⟨_, rfl⟩
  obtain ⟨W1, hW1⟩ : ∃ W, W = (w.alloc (.cells (ten 0 0 0 E0 E0 E0 E0 0 0 0) 24)).alloc (.cells (ten 0 0 0 E0 E0 E0 E0 0 0 0) 24) := ⟨_, rfl⟩
  rw [← hW1, ← hp, ← hg]
  have A := Aside0.mk (show Box w W1 g (ten 0 0 0 E0 E0 E0 E0 0 0 0) by rw [hW1, hg]; exact (Box.new (Nat.le_refl _) _).alloc _)
  have B := Aside0.mk (show Box w W1 p (ten 0 0 0 E0 E0 E0 E0 0 0 0) by
    have e : p = (w.alloc (.cells (ten 0 0 0 E0 E0 E0 E0 0 0 0) 24)).heap.size := by rw [hp]; simp
    rw [hW1, e]; exact Box.new (by simp) _)
  have D := Aside0.mk (show Below w.heap.size w W1 by rw [hW1]; exact below_alloc (below_alloc (Below.refl _ _) _) _)
  have NE := Aside0.mk (show g ≠ p by omega)
  clear hW1 hg hp
  go_upto_if 38 with (first | ((with_reducible refine gate_dst (N := 36) rfl ?_); (with_reducible refine gate_callee (f := 27) rfl ?_); refine goesL_ (some 36) rfl rfl Tryd.func27 (by kernel_rfl) rfl #[.int .i64 c] rfl (by (try simp only [List.map_toArray, List.map_cons, List.map_nil]); first | done | rfl) ?_; refine (transeptref05_Shape.calls k0 c ⟨#[45]⟩ _ HSH.out).mono ?_; rintro e wz_ ⟨rfl, hd⟩; refine ⟨_, rfl, ?_⟩; have hb := hd.below; clear hd; have n0_ := Aside0.mk (below_step D.out hb); have n1_ := Aside0.mk (A.out.then_ hb); have n2_ := Aside0.mk (B.out.then_ hb); clear D; clear A; clear B; have D := n0_; have A := n1_; have B := n2_; clear n0_ n1_ n2_; clear hb))
  go_upto_region 6 with (fail)
  obtain ⟨BB, hBB⟩ : ∃ BB : Act → World → Prop, BB = fun a w' => bodyPost Tryd.prog Tryd.f18 (fun e w' => e = .returned (.tuple #[.agg (ten 0 0 0 E0 E0 E0 E0 0 0 0), .int .i64 0, .int .i64 3]) ∧ Below w.heap.size w w') Exit.ret a w' := ⟨_, rfl⟩
  have HBB := Aside0.mk hBB
  clear hBB
  refine exit_region BB (by assumption) (fun a w' h => by rw [HBB.out] at h; (repeat (first | (with_reducible refine thenRet ?_) | (with_reducible refine blockRet ?_))); exact h) ?_
  go_wp2_with (first | ((with_reducible refine gate_dst (N := 39) rfl ?_); refine wpList_load_row ?hgd_39 24 (.tmp 5) ?ho_39 p ?hx_39 ?t_39 ?cs_39 ?fr_39 ?d_39 ?hg_39 ?hu_39 ?hd_39 ?hi_39 ?_; (case hgd_39 => rfl); (case ho_39 => rfl); (case hx_39 => rfl); (case hg_39 => exact B.out.blk); (case hu_39 => exact Tryd.underlying24); (case hd_39 => rfl); (case hi_39 => exact size24)) | ((with_reducible refine gate_store (p := 2) rfl ?_); refine wpList_store_row ?hgd_s39 24 (.tmp 2) (.tmp 39) ?ho_s39 g (ten 0 0 0 E0 E0 E0 E0 0 0 0) ?hx_s39 ?hy_s39 ?t_s39 ?old_s39 ?hg_s39 ?hi_s39 ?hold_s39 ?h1_s39 ?_; (case hgd_s39 => rfl); (case ho_s39 => rfl); (case hx_s39 => rfl); (case hy_s39 => rfl); (case hg_s39 => exact A.out.blk); (case hi_s39 => exact size24); (case hold_s39 => rfl); (case h1_s39 => exact ten_one _ _ _ _ _ _ _ _ _ _); have n0_ := Aside0.mk (setRow_below D.out A.out.base (ten 0 0 0 E0 E0 E0 E0 0 0 0)); have n1_ := Aside0.mk (Box.row A.out (ten 0 0 0 E0 E0 E0 E0 0 0 0)); have n2_ := Aside0.mk (Box.row_far B.out NE.out.symm (ten 0 0 0 E0 E0 E0 E0 0 0 0)); clear D; clear A; clear B; have D := n0_; have A := n1_; have B := n2_; clear n0_ n1_ n2_))
  rw [HBB.out]
  show bodyPost Tryd.prog Tryd.f18 _ Exit.ret _ _
  refine bodyPost_ret (results_cell3 (p := 2) (u := 3) (q := 4) rfl _ _ g 24 _ (0, 0) _ rfl A.out.blk Tryd.underlying24 rfl size24) rfl ?_
  exact ⟨rfl, D.out⟩
set_option maxHeartbeats 2000000 in
set_option maxRecDepth 100000 in
theorem dec_time (s : ByteArray) (c : Int) (k0 : Nat) (hs : s.toList.isEmpty = false) (hz : 0 < s.size) (hmx : s.size ≤ 100000) (hc : ∀ h : 0 < s.size, ((s[0]'h).toNat : Int) = c) (hc0 : 0 ≤ c) (hc1 : c < 256) (sh : ByteArray) (hsh : transeptref05_Shape.f k0 c = some sh) (hne : (sh.toList == ([45] : List UInt8)) = false) (t1 e1 : Int) (p1 P : Nat) (hP : (1 : Int) + (p1 : Int) = (P : Int)) (hg1 : transeptref01_Get.f k0 (s.extract 1 s.size) = some (t1, (p1 : Int), e1)) (hp1 : 1 + p1 ≤ s.size) (he : (e1 == 0) = false) (w : World) :
    Calls Tryd.prog 18 #[.string s] w fun e w' => e = .returned (.tuple #[.agg (ten 0 0 0 E0 E0 E0 E0 0 0 0), .int .i64 (P : Int), .int .i64 e1]) ∧ Below w.heap.size w w' := by
  have hs2 : (s.toList == ([] : List UInt8)) = false := by rw [beq_eq_false_iff_ne]; intro e; rw [e] at hs; simp at hs
  have HSH := Aside0.mk hsh
  clear hsh
  have HG1 := Aside0.mk hg1
  clear hg1
  go_enter Tryd.func18, Tryd.ntmps18
  go_upto_if 31 with (fail)
  obtain ⟨g, hg⟩ : ∃ g, g = w.heap.size := ⟨_, rfl⟩
  obtain ⟨p, hp⟩ : ∃ p, p = w.heap.size + 1 := ⟨_, rfl⟩
  obtain ⟨W1, hW1⟩ : ∃ W, W = (w.alloc (.cells (ten 0 0 0 E0 E0 E0 E0 0 0 0) 24)).alloc (.cells (ten 0 0 0 E0 E0 E0 E0 0 0 0) 24) := ⟨_, rfl⟩
  rw [← hW1, ← hp, ← hg]
  have A := Aside0.mk (show Box w W1 g (ten 0 0 0 E0 E0 E0 E0 0 0 0) by rw [hW1, hg]; exact (Box.new (Nat.le_refl _) _).alloc _)
  have B := Aside0.mk (show Box w W1 p (ten 0 0 0 E0 E0 E0 E0 0 0 0) by
    have e : p = (w.alloc (.cells (ten 0 0 0 E0 E0 E0 E0 0 0 0) 24)).heap.size := by rw [hp]; simp
    rw [hW1, e]; exact Box.new (by simp) _)
  have D := Aside0.mk (show Below w.heap.size w W1 by rw [hW1]; exact below_alloc (below_alloc (Below.refl _ _) _) _)
  have NE := Aside0.mk (show g ≠ p by omega)
  clear hW1 hg hp
  go_upto_region 8 with (first | ((with_reducible refine gate_dst (N := 36) rfl ?_); (with_reducible refine gate_callee (f := 27) rfl ?_); refine goesL_ (some 36) rfl rfl Tryd.func27 (by kernel_rfl) rfl #[.int .i64 c] rfl (by (try simp only [List.map_toArray, List.map_cons, List.map_nil]); first | done | rfl) ?_; refine (transeptref05_Shape.calls k0 c sh _ HSH.out).mono ?_; rintro e wz_ ⟨rfl, hd⟩; refine ⟨_, rfl, ?_⟩; have hb := hd.below; clear hd; have n0_ := Aside0.mk (below_step D.out hb); have n1_ := Aside0.mk (A.out.then_ hb); have n2_ := Aside0.mk (B.out.then_ hb); clear D; clear A; clear B; have D := n0_; have A := n1_; have B := n2_; clear n0_ n1_ n2_; clear hb))
  obtain ⟨q, hq⟩ : ∃ q, q = wz_.heap.size := ⟨_, rfl⟩
  obtain ⟨W2, hW2⟩ : ∃ W_, W_ = wz_.alloc (.cells (ten c 0 0 E0 E0 E0 E0 0 0 0) 24) := ⟨_, rfl⟩
  rw [← hW2, ← hq]
  have O := Aside0.mk (show Box w W2 q (ten c 0 0 E0 E0 E0 E0 0 0 0) by rw [hW2, hq]; exact Box.fresh D.out _)
  have NA := Aside0.mk (show g ≠ q by have h1_ := blk_lt A.out.blk; omega)
  have NB := Aside0.mk (show p ≠ q by have h1_ := blk_lt B.out.blk; omega)
  have A' := Aside0.mk (show Box w W2 g (ten 0 0 0 E0 E0 E0 E0 0 0 0) by rw [hW2]; exact A.out.alloc _)
  have B' := Aside0.mk (show Box w W2 p (ten 0 0 0 E0 E0 E0 E0 0 0 0) by rw [hW2]; exact B.out.alloc _)
  have D' := Aside0.mk (show Below w.heap.size w W2 by rw [hW2]; exact below_alloc D.out _)
  clear hW2 hq A B D
  have A := A'
  clear A'
  have B := B'
  clear B'
  have D := D'
  clear D'
  go_upto_if 54 with (first | ((with_reducible refine gate_dst (N := 47) rfl ?_); (with_reducible refine gate_callee (f := 39) rfl ?_); refine goesL_ (some 47) rfl rfl Tryd.func39 (by kernel_rfl) rfl #[.string (s.extract 1 s.size)] rfl (by (try simp only [List.map_toArray, List.map_cons, List.map_nil]); first | done | rfl) ?_; refine (transeptref01_Get.calls k0 (s.extract 1 s.size) t1 (p1 : Int) e1 _ HG1.out).mono ?_; rintro e wz_ ⟨rfl, hd⟩; refine ⟨_, rfl, ?_⟩; have hb := hd.below; clear hd; have n0_ := Aside0.mk (below_step D.out hb); have n1_ := Aside0.mk (A.out.then_ hb); have n2_ := Aside0.mk (B.out.then_ hb); have n3_ := Aside0.mk (O.out.then_ hb); clear D; clear A; clear B; clear O; have D := n0_; have A := n1_; have B := n2_; have O := n3_; clear n0_ n1_ n2_ n3_; clear hb))
  have he2 : (e1 != 0) = true := by simpa using he
  go_upto_region 11 with (fail)
  obtain ⟨BB, hBB⟩ : ∃ BB : Act → World → Prop, BB = fun a w' => bodyPost Tryd.prog Tryd.f18 (fun e w' => e = .returned (.tuple #[.agg (ten 0 0 0 E0 E0 E0 E0 0 0 0), .int .i64 (P : Int), .int .i64 e1]) ∧ Below w.heap.size w w') Exit.ret a w' := ⟨_, rfl⟩
  have HBB := Aside0.mk hBB
  clear hBB
  refine exit_region BB (by assumption) (fun a w' h => by rw [HBB.out] at h; (repeat (first | (with_reducible refine thenRet ?_) | (with_reducible refine blockRet ?_))); exact h) ?_
  go_wp2_with (first | ((with_reducible refine gate_dst (N := 55) rfl ?_); refine wpList_load_row ?hgd_55 24 (.tmp 5) ?ho_55 p ?hx_55 ?t_55 ?cs_55 ?fr_55 ?d_55 ?hg_55 ?hu_55 ?hd_55 ?hi_55 ?_; (case hgd_55 => rfl); (case ho_55 => rfl); (case hx_55 => rfl); (case hg_55 => exact B.out.blk); (case hu_55 => exact Tryd.underlying24); (case hd_55 => rfl); (case hi_55 => exact size24)) | ((with_reducible refine gate_store (p := 2) rfl ?_); refine wpList_store_row ?hgd_s55 24 (.tmp 2) (.tmp 55) ?ho_s55 g (ten 0 0 0 E0 E0 E0 E0 0 0 0) ?hx_s55 ?hy_s55 ?t_s55 ?old_s55 ?hg_s55 ?hi_s55 ?hold_s55 ?h1_s55 ?_; (case hgd_s55 => rfl); (case ho_s55 => rfl); (case hx_s55 => rfl); (case hy_s55 => rfl); (case hg_s55 => exact A.out.blk); (case hi_s55 => exact size24); (case hold_s55 => rfl); (case h1_s55 => exact ten_one _ _ _ _ _ _ _ _ _ _); have n0_ := Aside0.mk (setRow_below D.out A.out.base (ten 0 0 0 E0 E0 E0 E0 0 0 0)); have n1_ := Aside0.mk (Box.row A.out (ten 0 0 0 E0 E0 E0 E0 0 0 0)); have n2_ := Aside0.mk (Box.row_far B.out NE.out.symm (ten 0 0 0 E0 E0 E0 E0 0 0 0)); clear D; clear A; clear B; have D := n0_; have A := n1_; have B := n2_; clear n0_ n1_ n2_))
  rw [HBB.out]
  show bodyPost Tryd.prog Tryd.f18 _ Exit.ret _ _
  refine bodyPost_ret (results_cell3 (p := 2) (u := 3) (q := 4) rfl _ _ g 24 _ (0, 0) _ rfl A.out.blk Tryd.underlying24 rfl size24) rfl ?_
  exact ⟨rfl, D.out⟩
set_option maxHeartbeats 2000000 in
set_option maxRecDepth 100000 in
theorem dec_alone (s : ByteArray) (c : Int) (k0 : Nat) (hs : s.toList.isEmpty = false) (hz : 0 < s.size) (hmx : s.size ≤ 100000) (hc : ∀ h : 0 < s.size, ((s[0]'h).toNat : Int) = c) (hc0 : 0 ≤ c) (hc1 : c < 256) (sh : ByteArray) (hsh : transeptref05_Shape.f k0 c = some sh) (hne : (sh.toList == ([45] : List UInt8)) = false) (t1 : Int) (p1 P : Nat) (hg1 : transeptref01_Get.f k0 (s.extract 1 s.size) = some (t1, (p1 : Int), 0)) (hP : (1 : Int) + (p1 : Int) = (P : Int)) (hPs : P ≤ s.size) (al : Bool) (hal : (decide (c = 1) || decide (c = 2)) = al) (x1 : Int) (hx1 : ∀ h : P < s.size, ((s[P]'h).toNat : Int) = x1) (hlt : P < s.size) (hx : (al != (x1 == 0)) = true) (w : World) :
    Calls Tryd.prog 18 #[.string s] w fun e w' => e = .returned (.tuple #[.agg (ten 0 0 0 E0 E0 E0 E0 0 0 0), .int .i64 (P : Int), .int .i64 3]) ∧ Below w.heap.size w w' := by
  have hs2 : (s.toList == ([] : List UInt8)) = false := by rw [beq_eq_false_iff_ne]; intro e; rw [e] at hs; simp at hs
  have HSH := Aside0.mk hsh
  clear hsh
  have HG1 := Aside0.mk hg1
  clear hg1
  go_enter Tryd.func18, Tryd.ntmps18
  go_upto_if 31 with (fail)
  obtain ⟨g, hg⟩ : ∃ g, g = w.heap.size := ⟨_, rfl⟩
  obtain ⟨p, hp⟩ : ∃ p, p = w.heap.size + 1 := ⟨_, rfl⟩
  obtain ⟨W1, hW1⟩ : ∃ W, W = (w.alloc (.cells (ten 0 0 0 E0 E0 E0 E0 0 0 0) 24)).alloc (.cells (ten 0 0 0 E0 E0 E0 E0 0 0 0) 24) := ⟨_, rfl⟩
  rw [← hW1, ← hp, ← hg]
  have A := Aside0.mk (show Box w W1 g (ten 0 0 0 E0 E0 E0 E0 0 0 0) by rw [hW1, hg]; exact (Box.new (Nat.le_refl _) _).alloc _)
  have B := Aside0.mk (show Box w W1 p (ten 0 0 0 E0 E0 E0 E0 0 0 0) by
    have e : p = (w.alloc (.cells (ten 0 0 0 E0 E0 E0 E0 0 0 0) 24)).heap.size := by rw [hp]; simp
    rw [hW1, e]; exact Box.new (by simp) _)
  have D := Aside0.mk (show Below w.heap.size w W1 by rw [hW1]; exact below_alloc (below_alloc (Below.refl _ _) _) _)
  have NE := Aside0.mk (show g ≠ p by omega)
  clear hW1 hg hp
  go_upto_region 8 with (first | ((with_reducible refine gate_dst (N := 36) rfl ?_); (with_reducible refine gate_callee (f := 27) rfl ?_); refine goesL_ (some 36) rfl rfl Tryd.func27 (by kernel_rfl) rfl #[.int .i64 c] rfl (by (try simp only [List.map_toArray, List.map_cons, List.map_nil]); first | done | rfl) ?_; refine (transeptref05_Shape.calls k0 c sh _ HSH.out).mono ?_; rintro e wz_ ⟨rfl, hd⟩; refine ⟨_, rfl, ?_⟩; have hb := hd.below; clear hd; have n0_ := Aside0.mk (below_step D.out hb); have n1_ := Aside0.mk (A.out.then_ hb); have n2_ := Aside0.mk (B.out.then_ hb); clear D; clear A; clear B; have D := n0_; have A := n1_; have B := n2_; clear n0_ n1_ n2_; clear hb))
  obtain ⟨q, hq⟩ : ∃ q, q = wz_.heap.size := ⟨_, rfl⟩
  obtain ⟨W2, hW2⟩ : ∃ W_, W_ = wz_.alloc (.cells (ten c 0 0 E0 E0 E0 E0 0 0 0) 24) := ⟨_, rfl⟩
  rw [← hW2, ← hq]
  have O := Aside0.mk (show Box w W2 q (ten c 0 0 E0 E0 E0 E0 0 0 0) by rw [hW2, hq]; exact Box.fresh D.out _)
  have NA := Aside0.mk (show g ≠ q by have h1_ := blk_lt A.out.blk; omega)
  have NB := Aside0.mk (show p ≠ q by have h1_ := blk_lt B.out.blk; omega)
  have A' := Aside0.mk (show Box w W2 g (ten 0 0 0 E0 E0 E0 E0 0 0 0) by rw [hW2]; exact A.out.alloc _)
  have B' := Aside0.mk (show Box w W2 p (ten 0 0 0 E0 E0 E0 E0 0 0 0) by rw [hW2]; exact B.out.alloc _)
  have D' := Aside0.mk (show Below w.heap.size w W2 by rw [hW2]; exact below_alloc D.out _)
  clear hW2 hq A B D
  have A := A'
  clear A'
  have B := B'
  clear B'
  have D := D'
  clear D'
  go_upto_if 54 with (first | ((with_reducible refine gate_dst (N := 47) rfl ?_); (with_reducible refine gate_callee (f := 39) rfl ?_); refine goesL_ (some 47) rfl rfl Tryd.func39 (by kernel_rfl) rfl #[.string (s.extract 1 s.size)] rfl (by (try simp only [List.map_toArray, List.map_cons, List.map_nil]); first | done | rfl) ?_; refine (transeptref01_Get.calls k0 (s.extract 1 s.size) t1 (p1 : Int) 0 _ HG1.out).mono ?_; rintro e wz_ ⟨rfl, hd⟩; refine ⟨_, rfl, ?_⟩; have hb := hd.below; clear hd; have n0_ := Aside0.mk (below_step D.out hb); have n1_ := Aside0.mk (A.out.then_ hb); have n2_ := Aside0.mk (B.out.then_ hb); have n3_ := Aside0.mk (O.out.then_ hb); clear D; clear A; clear B; clear O; have D := n0_; have A := n1_; have B := n2_; have O := n3_; clear n0_ n1_ n2_ n3_; clear hb))
  obtain ⟨c0, c1, c2, c3, c4, c5, c6, c7, c8, c9⟩ := O.out.read
  obtain ⟨o0, o1, o2, o3, o4, o5, o6, o7, o8, o9⟩ := O.out.free
  go_upto_region 13 with (fail)
  clear c0 c1 c2 c3 c4 c5 c6 c7 c8 c9 o0 o1 o2 o3 o4 o5 o6 o7 o8 o9
  obtain ⟨W3, hW3⟩ : ∃ W_, W_ = wz_.setCell ⟨q, 1, none⟩ (.int .u64 t1) := ⟨_, rfl⟩
  rw [← hW3]
  have O' := Aside0.mk (show Box w W3 q (ten c t1 0 E0 E0 E0 E0 0 0 0) by rw [hW3]; exact ⟨O.out.base, blk_put O.out.blk 1 _ rfl⟩)
  have A' := Aside0.mk (show Box w W3 g (ten 0 0 0 E0 E0 E0 E0 0 0 0) by rw [hW3]; exact A.out.far NA.out _ _)
  have B' := Aside0.mk (show Box w W3 p (ten 0 0 0 E0 E0 E0 E0 0 0 0) by rw [hW3]; exact B.out.far NB.out _ _)
  have D' := Aside0.mk (show Below w.heap.size w W3 by rw [hW3]; exact D.out.setCell O.out.base _)
  clear hW3 O A B D
  have O := O'
  clear O'
  have A := A'
  clear A'
  have B := B'
  clear B'
  have D := D'
  clear D'
  have HAL := Aside0.mk hal
  have HC := Aside0.mk hc
  have HX := Aside0.mk hx1
  clear hal hc hx1
  obtain ⟨c0, c1, c2, c3, c4, c5, c6, c7, c8, c9⟩ := O.out.read
  go_cut [12] (fun v12 wc => v12 = .bool al ∧ wc = W3)
  case first =>
    have hal := HAL.out
    by_cases h1 : c = 1
    · subst h1
      obtain rfl : al = true := by simpa using hal.symm
      clear hal
      go_wp2
      go_meet
      case rel => exact ⟨rfl, rfl⟩
    · have h1' : (c == 1) = false := by rw [beq_eq_false_iff_ne]; exact h1
      by_cases h2 : c = 2
      · subst h2
        obtain rfl : al = true := by simpa using hal.symm
        clear hal h1
        go_wp2
        go_meet
        case rel => exact ⟨rfl, rfl⟩
      · have h2' : (c == 2) = false := by rw [beq_eq_false_iff_ne]; exact h2
        obtain rfl : al = false := by rw [decide_eq_false h1, decide_eq_false h2] at hal; exact hal.symm
        clear hal h1 h2
        go_wp2
        go_meet
        case rel => exact ⟨rfl, rfl⟩
  case rest =>
    obtain ⟨rfl, rfl⟩ := hcut
    clear c0 c1 c2 c3 c4 c5 c6 c7 c8 c9
    have hx1 := HX.out
    have hx' : (!al == (x1 == 0)) = true := by revert hx; cases al <;> cases (x1 == 0) <;> simp
    go_upto_if 79 with (fail)
    go_upto_region 15 with (fail)
    obtain ⟨BB, hBB⟩ : ∃ BB : Act → World → Prop, BB = fun a w' => bodyPost Tryd.prog Tryd.f18 (fun e w' => e = .returned (.tuple #[.agg (ten 0 0 0 E0 E0 E0 E0 0 0 0), .int .i64 (P : Int), .int .i64 3]) ∧ Below w.heap.size w w') Exit.ret a w' := ⟨_, rfl⟩
    have HBB := Aside0.mk hBB
    clear hBB
    refine exit_region BB (by assumption) (fun a w' h => by rw [HBB.out] at h; (repeat (first | (with_reducible refine thenRet ?_) | (with_reducible refine blockRet ?_))); exact h) ?_
    go_wp2_with (first | ((with_reducible refine gate_dst (N := 80) rfl ?_); refine wpList_load_row ?hgd_80 24 (.tmp 5) ?ho_80 p ?hx_80 ?t_80 ?cs_80 ?fr_80 ?d_80 ?hg_80 ?hu_80 ?hd_80 ?hi_80 ?_; (case hgd_80 => rfl); (case ho_80 => rfl); (case hx_80 => rfl); (case hg_80 => exact B.out.blk); (case hu_80 => exact Tryd.underlying24); (case hd_80 => rfl); (case hi_80 => exact size24)) | ((with_reducible refine gate_store (p := 2) rfl ?_); refine wpList_store_row ?hgd_s80 24 (.tmp 2) (.tmp 80) ?ho_s80 g (ten 0 0 0 E0 E0 E0 E0 0 0 0) ?hx_s80 ?hy_s80 ?t_s80 ?old_s80 ?hg_s80 ?hi_s80 ?hold_s80 ?h1_s80 ?_; (case hgd_s80 => rfl); (case ho_s80 => rfl); (case hx_s80 => rfl); (case hy_s80 => rfl); (case hg_s80 => exact A.out.blk); (case hi_s80 => exact size24); (case hold_s80 => rfl); (case h1_s80 => exact ten_one _ _ _ _ _ _ _ _ _ _); have n0_ := Aside0.mk (setRow_below D.out A.out.base (ten 0 0 0 E0 E0 E0 E0 0 0 0)); have n1_ := Aside0.mk (Box.row A.out (ten 0 0 0 E0 E0 E0 E0 0 0 0)); have n2_ := Aside0.mk (Box.row_far B.out NE.out.symm (ten 0 0 0 E0 E0 E0 E0 0 0 0)); clear D; clear A; clear B; have D := n0_; have A := n1_; have B := n2_; clear n0_ n1_ n2_))
    rw [HBB.out]
    show bodyPost Tryd.prog Tryd.f18 _ Exit.ret _ _
    refine bodyPost_ret (results_cell3 (p := 2) (u := 3) (q := 4) rfl _ _ g 24 _ (0, 0) _ rfl A.out.blk Tryd.underlying24 rfl size24) rfl ?_
    exact ⟨rfl, D.out⟩
set_option maxHeartbeats 2000000 in
set_option maxRecDepth 100000 in
theorem dec_id (s : ByteArray) (c : Int) (k0 : Nat) (hs : s.toList.isEmpty = false) (hz : 0 < s.size) (hmx : s.size ≤ 100000) (hc : ∀ h : 0 < s.size, ((s[0]'h).toNat : Int) = c) (hc0 : 0 ≤ c) (hc1 : c < 256) (sh : ByteArray) (hsh : transeptref05_Shape.f k0 c = some sh) (hne : (sh.toList == ([45] : List UInt8)) = false) (t1 : Int) (p1 P : Nat) (hg1 : transeptref01_Get.f k0 (s.extract 1 s.size) = some (t1, (p1 : Int), 0)) (hP : (1 : Int) + (p1 : Int) = (P : Int)) (hPs : P ≤ s.size) (al : Bool) (hal : (decide (c = 1) || decide (c = 2)) = al) (x1 : Int) (hx1 : ∀ h : P < s.size, ((s[P]'h).toNat : Int) = x1) (id e2 : Int) (k2 P2 : Nat) (hpass : P < s.size → (al != (x1 == 0)) = false) (hg2 : transeptref01_Get.f k0 (s.extract P s.size) = some (id, (k2 : Int), e2)) (hP2 : (P : Int) + (k2 : Int) = (P2 : Int)) (hP2s : P2 ≤ s.size) (he : (e2 == 0) = false) (w : World) :
    Calls Tryd.prog 18 #[.string s] w fun e w' => e = .returned (.tuple #[.agg (ten 0 0 0 E0 E0 E0 E0 0 0 0), .int .i64 (P2 : Int), .int .i64 e2]) ∧ Below w.heap.size w w' := by
  have hs2 : (s.toList == ([] : List UInt8)) = false := by rw [beq_eq_false_iff_ne]; intro e; rw [e] at hs; simp at hs
  have HSH := Aside0.mk hsh
  clear hsh
  have HG1 := Aside0.mk hg1
  clear hg1
  go_enter Tryd.func18, Tryd.ntmps18
  go_upto_if 31 with (fail)
  obtain ⟨g, hg⟩ : ∃ g, g = w.heap.size := ⟨_, rfl⟩
  obtain ⟨p, hp⟩ : ∃ p, p = w.heap.size + 1 := ⟨_, rfl⟩
  obtain ⟨W1, hW1⟩ : ∃ W, W = (w.alloc (.cells (ten 0 0 0 E0 E0 E0 E0 0 0 0) 24)).alloc (.cells (ten 0 0 0 E0 E0 E0 E0 0 0 0) 24) := ⟨_, rfl⟩
  rw [← hW1, ← hp, ← hg]
  have A := Aside0.mk (show Box w W1 g (ten 0 0 0 E0 E0 E0 E0 0 0 0) by rw [hW1, hg]; exact (Box.new (Nat.le_refl _) _).alloc _)
  have B := Aside0.mk (show Box w W1 p (ten 0 0 0 E0 E0 E0 E0 0 0 0) by
    have e : p = (w.alloc (.cells (ten 0 0 0 E0 E0 E0 E0 0 0 0) 24)).heap.size := by rw [hp]; simp
    rw [hW1, e]; exact Box.new (by simp) _)
  have D := Aside0.mk (show Below w.heap.size w W1 by rw [hW1]; exact below_alloc (below_alloc (Below.refl _ _) _) _)
  have NE := Aside0.mk (show g ≠ p by omega)
  clear hW1 hg hp
  go_upto_region 8 with (first | ((with_reducible refine gate_dst (N := 36) rfl ?_); (with_reducible refine gate_callee (f := 27) rfl ?_); refine goesL_ (some 36) rfl rfl Tryd.func27 (by kernel_rfl) rfl #[.int .i64 c] rfl (by (try simp only [List.map_toArray, List.map_cons, List.map_nil]); first | done | rfl) ?_; refine (transeptref05_Shape.calls k0 c sh _ HSH.out).mono ?_; rintro e wz_ ⟨rfl, hd⟩; refine ⟨_, rfl, ?_⟩; have hb := hd.below; clear hd; have n0_ := Aside0.mk (below_step D.out hb); have n1_ := Aside0.mk (A.out.then_ hb); have n2_ := Aside0.mk (B.out.then_ hb); clear D; clear A; clear B; have D := n0_; have A := n1_; have B := n2_; clear n0_ n1_ n2_; clear hb))
  obtain ⟨q, hq⟩ : ∃ q, q = wz_.heap.size := ⟨_, rfl⟩
  obtain ⟨W2, hW2⟩ : ∃ W_, W_ = wz_.alloc (.cells (ten c 0 0 E0 E0 E0 E0 0 0 0) 24) := ⟨_, rfl⟩
  rw [← hW2, ← hq]
  have O := Aside0.mk (show Box w W2 q (ten c 0 0 E0 E0 E0 E0 0 0 0) by rw [hW2, hq]; exact Box.fresh D.out _)
  have NA := Aside0.mk (show g ≠ q by have h1_ := blk_lt A.out.blk; omega)
  have NB := Aside0.mk (show p ≠ q by have h1_ := blk_lt B.out.blk; omega)
  have A' := Aside0.mk (show Box w W2 g (ten 0 0 0 E0 E0 E0 E0 0 0 0) by rw [hW2]; exact A.out.alloc _)
  have B' := Aside0.mk (show Box w W2 p (ten 0 0 0 E0 E0 E0 E0 0 0 0) by rw [hW2]; exact B.out.alloc _)
  have D' := Aside0.mk (show Below w.heap.size w W2 by rw [hW2]; exact below_alloc D.out _)
  clear hW2 hq A B D
  have A := A'
  clear A'
  have B := B'
  clear B'
  have D := D'
  clear D'
  go_upto_if 54 with (first | ((with_reducible refine gate_dst (N := 47) rfl ?_); (with_reducible refine gate_callee (f := 39) rfl ?_); refine goesL_ (some 47) rfl rfl Tryd.func39 (by kernel_rfl) rfl #[.string (s.extract 1 s.size)] rfl (by (try simp only [List.map_toArray, List.map_cons, List.map_nil]); first | done | rfl) ?_; refine (transeptref01_Get.calls k0 (s.extract 1 s.size) t1 (p1 : Int) 0 _ HG1.out).mono ?_; rintro e wz_ ⟨rfl, hd⟩; refine ⟨_, rfl, ?_⟩; have hb := hd.below; clear hd; have n0_ := Aside0.mk (below_step D.out hb); have n1_ := Aside0.mk (A.out.then_ hb); have n2_ := Aside0.mk (B.out.then_ hb); have n3_ := Aside0.mk (O.out.then_ hb); clear D; clear A; clear B; clear O; have D := n0_; have A := n1_; have B := n2_; have O := n3_; clear n0_ n1_ n2_ n3_; clear hb))
  obtain ⟨c0, c1, c2, c3, c4, c5, c6, c7, c8, c9⟩ := O.out.read
  obtain ⟨o0, o1, o2, o3, o4, o5, o6, o7, o8, o9⟩ := O.out.free
  go_upto_region 13 with (fail)
  clear c0 c1 c2 c3 c4 c5 c6 c7 c8 c9 o0 o1 o2 o3 o4 o5 o6 o7 o8 o9
  obtain ⟨W3, hW3⟩ : ∃ W_, W_ = wz_.setCell ⟨q, 1, none⟩ (.int .u64 t1) := ⟨_, rfl⟩
  rw [← hW3]
  have O' := Aside0.mk (show Box w W3 q (ten c t1 0 E0 E0 E0 E0 0 0 0) by rw [hW3]; exact ⟨O.out.base, blk_put O.out.blk 1 _ rfl⟩)
  have A' := Aside0.mk (show Box w W3 g (ten 0 0 0 E0 E0 E0 E0 0 0 0) by rw [hW3]; exact A.out.far NA.out _ _)
  have B' := Aside0.mk (show Box w W3 p (ten 0 0 0 E0 E0 E0 E0 0 0 0) by rw [hW3]; exact B.out.far NB.out _ _)
  have D' := Aside0.mk (show Below w.heap.size w W3 by rw [hW3]; exact D.out.setCell O.out.base _)
  clear hW3 O A B D
  have O := O'
  clear O'
  have A := A'
  clear A'
  have B := B'
  clear B'
  have D := D'
  clear D'
  have HAL := Aside0.mk hal
  have HC := Aside0.mk hc
  have HX := Aside0.mk hx1
  clear hal hc hx1
  obtain ⟨c0, c1, c2, c3, c4, c5, c6, c7, c8, c9⟩ := O.out.read
  go_cut [12] (fun v12 wc => v12 = .bool al ∧ wc = W3)
  case first =>
    have hal := HAL.out
    by_cases h1 : c = 1
    · subst h1
      obtain rfl : al = true := by simpa using hal.symm
      clear hal
      go_wp2
      go_meet
      case rel => exact ⟨rfl, rfl⟩
    · have h1' : (c == 1) = false := by rw [beq_eq_false_iff_ne]; exact h1
      by_cases h2 : c = 2
      · subst h2
        obtain rfl : al = true := by simpa using hal.symm
        clear hal h1
        go_wp2
        go_meet
        case rel => exact ⟨rfl, rfl⟩
      · have h2' : (c == 2) = false := by rw [beq_eq_false_iff_ne]; exact h2
        obtain rfl : al = false := by rw [decide_eq_false h1, decide_eq_false h2] at hal; exact hal.symm
        clear hal h1 h2
        go_wp2
        go_meet
        case rel => exact ⟨rfl, rfl⟩
  case rest =>
    obtain ⟨rfl, rfl⟩ := hcut
    obtain ⟨W4, rfl⟩ : ∃ W_ : World, W_ = wc := ⟨_, rfl⟩
    clear c0 c1 c2 c3 c4 c5 c6 c7 c8 c9
    have HG2 := Aside0.mk hg2
    have HPASS := Aside0.mk hpass
    have HP2 := Aside0.mk hP2
    clear hg2 hpass hP2
    go_upto_region 14 with (fail)
    go_cut [79] (fun v79 wc => v79 = .bool false ∧ wc = W4)
    case first =>
      have hx1 := HX.out
      by_cases hlt : P < s.size
      · have hx := HPASS.out hlt
        have hx' : (!al == (x1 == 0)) = false := by revert hx; cases al <;> cases (x1 == 0) <;> simp
        go_wp2
        go_meet
        case rel => exact ⟨rfl, rfl⟩
      · go_wp2
        go_meet
        case rel => exact ⟨rfl, rfl⟩
    case rest =>
      obtain ⟨rfl, rfl⟩ := hcut
      have hP2 := HP2.out
      go_upto_if 94 with (first | ((with_reducible refine gate_dst (N := 86) rfl ?_); (with_reducible refine gate_callee (f := 39) rfl ?_); refine goesL_ (some 86) rfl rfl Tryd.func39 (by kernel_rfl) rfl #[.string (s.extract P s.size)] rfl (by (try simp only [List.map_toArray, List.map_cons, List.map_nil]); first | done | rfl) ?_; refine (transeptref01_Get.calls k0 (s.extract P s.size) id (k2 : Int) e2 _ HG2.out).mono ?_; rintro e wz_ ⟨rfl, hd⟩; refine ⟨_, rfl, ?_⟩; have hb := hd.below; clear hd; have n0_ := Aside0.mk (below_step D.out hb); have n1_ := Aside0.mk (A.out.then_ hb); have n2_ := Aside0.mk (B.out.then_ hb); have n3_ := Aside0.mk (O.out.then_ hb); clear D; clear A; clear B; clear O; have D := n0_; have A := n1_; have B := n2_; have O := n3_; clear n0_ n1_ n2_ n3_; clear hb))
      have he2 : (e2 != 0) = true := by simpa using he
      go_upto_region 19 with (fail)
      obtain ⟨BB, hBB⟩ : ∃ BB : Act → World → Prop, BB = fun a w' => bodyPost Tryd.prog Tryd.f18 (fun e w' => e = .returned (.tuple #[.agg (ten 0 0 0 E0 E0 E0 E0 0 0 0), .int .i64 (P2 : Int), .int .i64 e2]) ∧ Below w.heap.size w w') Exit.ret a w' := ⟨_, rfl⟩
      have HBB := Aside0.mk hBB
      clear hBB
      refine exit_region BB (by assumption) (fun a w' h => by rw [HBB.out] at h; (repeat (first | (with_reducible refine thenRet ?_) | (with_reducible refine blockRet ?_))); exact h) ?_
      go_wp2_with (first | ((with_reducible refine gate_dst (N := 95) rfl ?_); refine wpList_load_row ?hgd_95 24 (.tmp 5) ?ho_95 p ?hx_95 ?t_95 ?cs_95 ?fr_95 ?d_95 ?hg_95 ?hu_95 ?hd_95 ?hi_95 ?_; (case hgd_95 => rfl); (case ho_95 => rfl); (case hx_95 => rfl); (case hg_95 => exact B.out.blk); (case hu_95 => exact Tryd.underlying24); (case hd_95 => rfl); (case hi_95 => exact size24)) | ((with_reducible refine gate_store (p := 2) rfl ?_); refine wpList_store_row ?hgd_s95 24 (.tmp 2) (.tmp 95) ?ho_s95 g (ten 0 0 0 E0 E0 E0 E0 0 0 0) ?hx_s95 ?hy_s95 ?t_s95 ?old_s95 ?hg_s95 ?hi_s95 ?hold_s95 ?h1_s95 ?_; (case hgd_s95 => rfl); (case ho_s95 => rfl); (case hx_s95 => rfl); (case hy_s95 => rfl); (case hg_s95 => exact A.out.blk); (case hi_s95 => exact size24); (case hold_s95 => rfl); (case h1_s95 => exact ten_one _ _ _ _ _ _ _ _ _ _); have n0_ := Aside0.mk (setRow_below D.out A.out.base (ten 0 0 0 E0 E0 E0 E0 0 0 0)); have n1_ := Aside0.mk (Box.row A.out (ten 0 0 0 E0 E0 E0 E0 0 0 0)); have n2_ := Aside0.mk (Box.row_far B.out NE.out.symm (ten 0 0 0 E0 E0 E0 E0 0 0 0)); clear D; clear A; clear B; have D := n0_; have A := n1_; have B := n2_; clear n0_ n1_ n2_))
      rw [HBB.out]
      show bodyPost Tryd.prog Tryd.f18 _ Exit.ret _ _
      refine bodyPost_ret (results_cell3 (p := 2) (u := 3) (q := 4) rfl _ _ g 24 _ (0, 0) _ rfl A.out.blk Tryd.underlying24 rfl size24) rfl ?_
      exact ⟨rfl, D.out⟩
end Go.Proofs.YtmlhlcdamppbfaaDoor.Xa
namespace Go.Proofs.YtmlhlcdamppbfaaDoor.Xa
open Go.RowKit Go.Proofs.YtmlhlcdamppbfaaDoor.Ext Go.Proofs.YtmlhlcdamppbfaaDoor.Pure Go.Proofs.YtmlhlcdamppbfaaDoorW.PrintWords Go.Proofs.YtmlhlcdamppbfaaDoorW.PrintLast Go.Proofs.YtmlhlcdamppbfaaDoorW.PrintMore
attribute [local go_sem] max2_int min2_int max_two min_two max_three min_three max_four min_four
set_option linter.unusedVariables false
set_option linter.unusedSimpArgs false
set_option maxHeartbeats 2000000 in
set_option maxRecDepth 100000 in
theorem dec_texts (s : ByteArray) (c : Int) (k0 : Nat) (hs : s.toList.isEmpty = false) (hz : 0 < s.size) (hmx : s.size ≤ 100000) (hc : ∀ h : 0 < s.size, ((s[0]'h).toNat : Int) = c) (hc0 : 0 ≤ c) (hc1 : c < 256) (sh : ByteArray) (hsh : transeptref05_Shape.f k0 c = some sh) (hne : (sh.toList == ([45] : List UInt8)) = false) (t1 : Int) (p1 P : Nat) (hg1 : transeptref01_Get.f k0 (s.extract 1 s.size) = some (t1, (p1 : Int), 0)) (hP : (1 : Int) + (p1 : Int) = (P : Int)) (hPs : P ≤ s.size) (al : Bool) (hal : (decide (c = 1) || decide (c = 2)) = al) (x1 : Int) (hx1 : ∀ h : P < s.size, ((s[P]'h).toNat : Int) = x1) (id : Int) (k2 P2 : Nat) (hpass : P < s.size → (al != (x1 == 0)) = false) (hg2 : transeptref01_Get.f k0 (s.extract P s.size) = some (id, (k2 : Int), 0)) (hP2 : (P : Int) + (k2 : Int) = (P2 : Int)) (hP2s : P2 ≤ s.size) (T : Nat) (Lt : ByteArray) (hsp : transeptref05_split.f k0 sh = some ((T : Int), Lt)) (V : Nat → ByteArray) (Q X : Nat → Nat) (E : Nat → Int) (hQ0 : Q 0 = P2) (hT4 : T ≤ 4) (hTX : ∀ i, i < T → transeptref01_Text.f k0 (s.extract (Q i) s.size) 4096 = some (V i, (X i : Int), E i) ∧ (Q i : Int) + (X i : Int) = (Q (i + 1) : Int) ∧ Q i ≤ s.size ∧ Q (i + 1) ≤ s.size) (RES : Array Value) (AT ER : Int) (hXT : ∀ i, i < T → E i ≠ 0 → (∀ j, j < i → E j = 0) → RES = (ten 0 0 0 E0 E0 E0 E0 0 0 0) ∧ AT = (Q (i + 1) : Int) ∧ ER = E i) (PN : Nat → Nat) (Ln M Y F : Nat → Int) (hLs : Lt.size ≤ 3) (hPN0 : PN 0 = Q T) (hNM : ∀ j, j < Lt.size → transeptref05_most.f (Ln j) = some (M j) ∧ transeptref05_bounded.f s (PN j : Int) (M j) = some (Y j, F j) ∧ (PN j : Int) + 1 = (PN (j + 1) : Int) ∧ (∀ h : j < Lt.size, ((Lt[j]'h).toNat : Int) = Ln j) ∧ (Ln j == 115) = false ∧ wrap64 (Y j) = Y j ∧ PN (j + 1) ≤ 200000) (hXN : (∀ j, j < T → E j = 0) → ∀ i, i < Lt.size → F i ≠ 0 → (∀ j, j < i → F j = 0) → RES = (ten 0 0 0 E0 E0 E0 E0 0 0 0) ∧ AT = (PN i : Int) ∧ ER = F i) (hXE : (∀ j, j < T → E j = 0) → (∀ j, j < Lt.size → F j = 0) → (PN Lt.size < s.size → RES = (ten 0 0 0 E0 E0 E0 E0 0 0 0) ∧ AT = (PN Lt.size : Int) ∧ ER = 8) ∧ (¬ PN Lt.size < s.size → RES = (ten c t1 id (tx V T 0) (tx V T 1) (tx V T 2) (tx V T 3) (nm Y Lt.size 0) (nm Y Lt.size 1) (nm Y Lt.size 2)) ∧ AT = (PN Lt.size : Int) ∧ ER = 0)) (w : World) :
    Calls Tryd.prog 18 #[.string s] w fun e w' => e = .returned (.tuple #[.agg RES, .int .i64 AT, .int .i64 ER]) ∧ Below w.heap.size w w' := by
  have hs2 : (s.toList == ([] : List UInt8)) = false := by rw [beq_eq_false_iff_ne]; intro e; rw [e] at hs; simp at hs
  have HSH := Aside0.mk hsh
  clear hsh
  have HG1 := Aside0.mk hg1
  clear hg1
  go_enter Tryd.func18, Tryd.ntmps18
  go_upto_if 31 with (fail)
  obtain ⟨g, hg⟩ : ∃ g, g = w.heap.size := ⟨_, rfl⟩
  obtain ⟨p, hp⟩ : ∃ p, p = w.heap.size + 1 := ⟨_, rfl⟩
  obtain ⟨W1, hW1⟩ : ∃ W, W = (w.alloc (.cells (ten 0 0 0 E0 E0 E0 E0 0 0 0) 24)).alloc (.cells (ten 0 0 0 E0 E0 E0 E0 0 0 0) 24) := ⟨_, rfl⟩
  rw [← hW1, ← hp, ← hg]
  have A := Aside0.mk (show Box w W1 g (ten 0 0 0 E0 E0 E0 E0 0 0 0) by rw [hW1, hg]; exact (Box.new (Nat.le_refl _) _).alloc _)
  have B := Aside0.mk (show Box w W1 p (ten 0 0 0 E0 E0 E0 E0 0 0 0) by
    have e : p = (w.alloc (.cells (ten 0 0 0 E0 E0 E0 E0 0 0 0) 24)).heap.size := by rw [hp]; simp
    rw [hW1, e]; exact Box.new (by simp) _)
  have D := Aside0.mk (show Below w.heap.size w W1 by rw [hW1]; exact below_alloc (below_alloc (Below.refl _ _) _) _)
  have NE := Aside0.mk (show g ≠ p by omega)
  clear hW1 hg hp
  go_upto_region 8 with (first | ((with_reducible refine gate_dst (N := 36) rfl ?_); (with_reducible refine gate_callee (f := 27) rfl ?_); refine goesL_ (some 36) rfl rfl Tryd.func27 (by kernel_rfl) rfl #[.int .i64 c] rfl (by (try simp only [List.map_toArray, List.map_cons, List.map_nil]); first | done | rfl) ?_; refine (transeptref05_Shape.calls k0 c sh _ HSH.out).mono ?_; rintro e wz_ ⟨rfl, hd⟩; refine ⟨_, rfl, ?_⟩; have hb := hd.below; clear hd; have n0_ := Aside0.mk (below_step D.out hb); have n1_ := Aside0.mk (A.out.then_ hb); have n2_ := Aside0.mk (B.out.then_ hb); clear D; clear A; clear B; have D := n0_; have A := n1_; have B := n2_; clear n0_ n1_ n2_; clear hb))
  obtain ⟨q, hq⟩ : ∃ q, q = wz_.heap.size := ⟨_, rfl⟩
  obtain ⟨W2, hW2⟩ : ∃ W_, W_ = wz_.alloc (.cells (ten c 0 0 E0 E0 E0 E0 0 0 0) 24) := ⟨_, rfl⟩
  rw [← hW2, ← hq]
  have O := Aside0.mk (show Box w W2 q (ten c 0 0 E0 E0 E0 E0 0 0 0) by rw [hW2, hq]; exact Box.fresh D.out _)
  have NA := Aside0.mk (show g ≠ q by have h1_ := blk_lt A.out.blk; omega)
  have NB := Aside0.mk (show p ≠ q by have h1_ := blk_lt B.out.blk; omega)
  have A' := Aside0.mk (show Box w W2 g (ten 0 0 0 E0 E0 E0 E0 0 0 0) by rw [hW2]; exact A.out.alloc _)
  have B' := Aside0.mk (show Box w W2 p (ten 0 0 0 E0 E0 E0 E0 0 0 0) by rw [hW2]; exact B.out.alloc _)
  have D' := Aside0.mk (show Below w.heap.size w W2 by rw [hW2]; exact below_alloc D.out _)
  clear hW2 hq A B D
  have A := A'
  clear A'
  have B := B'
  clear B'
  have D := D'
  clear D'
  go_upto_if 54 with (first | ((with_reducible refine gate_dst (N := 47) rfl ?_); (with_reducible refine gate_callee (f := 39) rfl ?_); refine goesL_ (some 47) rfl rfl Tryd.func39 (by kernel_rfl) rfl #[.string (s.extract 1 s.size)] rfl (by (try simp only [List.map_toArray, List.map_cons, List.map_nil]); first | done | rfl) ?_; refine (transeptref01_Get.calls k0 (s.extract 1 s.size) t1 (p1 : Int) 0 _ HG1.out).mono ?_; rintro e wz_ ⟨rfl, hd⟩; refine ⟨_, rfl, ?_⟩; have hb := hd.below; clear hd; have n0_ := Aside0.mk (below_step D.out hb); have n1_ := Aside0.mk (A.out.then_ hb); have n2_ := Aside0.mk (B.out.then_ hb); have n3_ := Aside0.mk (O.out.then_ hb); clear D; clear A; clear B; clear O; have D := n0_; have A := n1_; have B := n2_; have O := n3_; clear n0_ n1_ n2_ n3_; clear hb))
  obtain ⟨c0, c1, c2, c3, c4, c5, c6, c7, c8, c9⟩ := O.out.read
  obtain ⟨o0, o1, o2, o3, o4, o5, o6, o7, o8, o9⟩ := O.out.free
  go_upto_region 13 with (fail)
  clear c0 c1 c2 c3 c4 c5 c6 c7 c8 c9 o0 o1 o2 o3 o4 o5 o6 o7 o8 o9
  obtain ⟨W3, hW3⟩ : ∃ W_, W_ = wz_.setCell ⟨q, 1, none⟩ (.int .u64 t1) := ⟨_, rfl⟩
  rw [← hW3]
  have O' := Aside0.mk (show Box w W3 q (ten c t1 0 E0 E0 E0 E0 0 0 0) by rw [hW3]; exact ⟨O.out.base, blk_put O.out.blk 1 _ rfl⟩)
  have A' := Aside0.mk (show Box w W3 g (ten 0 0 0 E0 E0 E0 E0 0 0 0) by rw [hW3]; exact A.out.far NA.out _ _)
  have B' := Aside0.mk (show Box w W3 p (ten 0 0 0 E0 E0 E0 E0 0 0 0) by rw [hW3]; exact B.out.far NB.out _ _)
  have D' := Aside0.mk (show Below w.heap.size w W3 by rw [hW3]; exact D.out.setCell O.out.base _)
  clear hW3 O A B D
  have O := O'
  clear O'
  have A := A'
  clear A'
  have B := B'
  clear B'
  have D := D'
  clear D'
  have HAL := Aside0.mk hal
  have HC := Aside0.mk hc
  have HX := Aside0.mk hx1
  clear hal hc hx1
  obtain ⟨c0, c1, c2, c3, c4, c5, c6, c7, c8, c9⟩ := O.out.read
  go_cut [12] (fun v12 wc => v12 = .bool al ∧ wc = W3)
  case first =>
    have hal := HAL.out
    by_cases h1 : c = 1
    · subst h1
      obtain rfl : al = true := by simpa using hal.symm
      clear hal
      go_wp2
      go_meet
      case rel => exact ⟨rfl, rfl⟩
    · have h1' : (c == 1) = false := by rw [beq_eq_false_iff_ne]; exact h1
      by_cases h2 : c = 2
      · subst h2
        obtain rfl : al = true := by simpa using hal.symm
        clear hal h1
        go_wp2
        go_meet
        case rel => exact ⟨rfl, rfl⟩
      · have h2' : (c == 2) = false := by rw [beq_eq_false_iff_ne]; exact h2
        obtain rfl : al = false := by rw [decide_eq_false h1, decide_eq_false h2] at hal; exact hal.symm
        clear hal h1 h2
        go_wp2
        go_meet
        case rel => exact ⟨rfl, rfl⟩
  case rest =>
    obtain ⟨rfl, rfl⟩ := hcut
    obtain ⟨W4, rfl⟩ : ∃ W_ : World, W_ = wc := ⟨_, rfl⟩
    clear c0 c1 c2 c3 c4 c5 c6 c7 c8 c9
    have HG2 := Aside0.mk hg2
    have HPASS := Aside0.mk hpass
    have HP2 := Aside0.mk hP2
    clear hg2 hpass hP2
    go_upto_region 14 with (fail)
    go_cut [79] (fun v79 wc => v79 = .bool false ∧ wc = W4)
    case first =>
      have hx1 := HX.out
      by_cases hlt : P < s.size
      · have hx := HPASS.out hlt
        have hx' : (!al == (x1 == 0)) = false := by revert hx; cases al <;> cases (x1 == 0) <;> simp
        go_wp2
        go_meet
        case rel => exact ⟨rfl, rfl⟩
      · go_wp2
        go_meet
        case rel => exact ⟨rfl, rfl⟩
    case rest =>
      obtain ⟨rfl, rfl⟩ := hcut
      have hP2 := HP2.out
      go_upto_if 94 with (first | ((with_reducible refine gate_dst (N := 86) rfl ?_); (with_reducible refine gate_callee (f := 39) rfl ?_); refine goesL_ (some 86) rfl rfl Tryd.func39 (by kernel_rfl) rfl #[.string (s.extract P s.size)] rfl (by (try simp only [List.map_toArray, List.map_cons, List.map_nil]); first | done | rfl) ?_; refine (transeptref01_Get.calls k0 (s.extract P s.size) id (k2 : Int) 0 _ HG2.out).mono ?_; rintro e wz_ ⟨rfl, hd⟩; refine ⟨_, rfl, ?_⟩; have hb := hd.below; clear hd; have n0_ := Aside0.mk (below_step D.out hb); have n1_ := Aside0.mk (A.out.then_ hb); have n2_ := Aside0.mk (B.out.then_ hb); have n3_ := Aside0.mk (O.out.then_ hb); clear D; clear A; clear B; clear O; have D := n0_; have A := n1_; have B := n2_; have O := n3_; clear n0_ n1_ n2_ n3_; clear hb))
      obtain ⟨c0, c1, c2, c3, c4, c5, c6, c7, c8, c9⟩ := O.out.read
      obtain ⟨o0, o1, o2, o3, o4, o5, o6, o7, o8, o9⟩ := O.out.free
      go_upto_region 21 with (fail)
      clear c0 c1 c2 c3 c4 c5 c6 c7 c8 c9 o0 o1 o2 o3 o4 o5 o6 o7 o8 o9
      obtain ⟨W5, hW5⟩ : ∃ W_, W_ = wz_.setCell ⟨q, 2, none⟩ (.int .u64 id) := ⟨_, rfl⟩
      rw [← hW5]
      have O' := Aside0.mk (show Box w W5 q (ten c t1 id E0 E0 E0 E0 0 0 0) by rw [hW5]; exact ⟨O.out.base, blk_put O.out.blk 2 _ rfl⟩)
      have A' := Aside0.mk (show Box w W5 g (ten 0 0 0 E0 E0 E0 E0 0 0 0) by rw [hW5]; exact A.out.far NA.out _ _)
      have B' := Aside0.mk (show Box w W5 p (ten 0 0 0 E0 E0 E0 E0 0 0 0) by rw [hW5]; exact B.out.far NB.out _ _)
      have D' := Aside0.mk (show Below w.heap.size w W5 by rw [hW5]; exact D.out.setCell O.out.base _)
      clear hW5 O A B D
      have O := O'
      clear O'
      have A := A'
      clear A'
      have B := B'
      clear B'
      have D := D'
      clear D'
      have HSP := Aside0.mk hsp
      clear hsp
      go_upto_region 22 with (first | ((with_reducible refine gate_dst (N := 102) rfl ?_); (with_reducible refine gate_callee (f := 28) rfl ?_); refine goesL_ (some 102) rfl rfl Tryd.func28 (by kernel_rfl) rfl #[.string sh] rfl (by (try simp only [List.map_toArray, List.map_cons, List.map_nil]); first | done | rfl) ?_; refine (transeptref05_split.calls k0 sh (T : Int) Lt _ HSP.out).mono ?_; rintro e wz_ ⟨rfl, hd⟩; refine ⟨_, rfl, ?_⟩; have hb := hd.below; clear hd; have n0_ := Aside0.mk (below_step D.out hb); have n1_ := Aside0.mk (A.out.then_ hb); have n2_ := Aside0.mk (B.out.then_ hb); have n3_ := Aside0.mk (O.out.then_ hb); clear D; clear A; clear B; clear O; have D := n0_; have A := n1_; have B := n2_; have O := n3_; clear n0_ n1_ n2_ n3_; clear hb))
      go_upto_region 23 with (fail)
      obtain ⟨r, hr⟩ : ∃ r, r = wz_.heap.size := ⟨_, rfl⟩
      obtain ⟨W6, hW6⟩ : ∃ W_, W_ = wz_.alloc (.cells #[.string ⟨#[]⟩, .string ⟨#[]⟩, .string ⟨#[]⟩, .string ⟨#[]⟩] 9) := ⟨_, rfl⟩
      rw [← hW6, ← hr]
      have R := Aside0.mk (show TBox w W6 r ⟨#[]⟩ ⟨#[]⟩ ⟨#[]⟩ ⟨#[]⟩ by rw [hW6, hr]; exact ⟨D.out.size, blk_new _ _⟩)
      have NRA := Aside0.mk (show g ≠ r by have h1_ := blk_lt A.out.blk; omega)
      have NRB := Aside0.mk (show p ≠ r by have h1_ := blk_lt B.out.blk; omega)
      have NRO := Aside0.mk (show q ≠ r by have h1_ := blk_lt O.out.blk; omega)
      have A' := Aside0.mk (show Box w W6 g (ten 0 0 0 E0 E0 E0 E0 0 0 0) by rw [hW6]; exact A.out.alloc _)
      have B' := Aside0.mk (show Box w W6 p (ten 0 0 0 E0 E0 E0 E0 0 0 0) by rw [hW6]; exact B.out.alloc _)
      have O' := Aside0.mk (show Box w W6 q (ten c t1 id E0 E0 E0 E0 0 0 0) by rw [hW6]; exact O.out.alloc _)
      have D' := Aside0.mk (show Below w.heap.size w W6 by rw [hW6]; exact below_alloc D.out _)
      clear hW6 hr A B O D
      have A := A'
      clear A'
      have B := B'
      clear B'
      have O := O'
      clear O'
      have D := D'
      clear D'
      obtain rfl := hQ0
      have HTX := Aside0.mk hTX
      have HXT := Aside0.mk hXT
      clear hTX hXT
      go_wp2_with (fail)
      go_loopg [11, 17] T (fun m v11 v17 w' => ∃ i : Nat, v11 = .int .i64 (Q i : Int) ∧ v17 = .int .i64 (i : Int) ∧ i + m = T ∧ Aside0 (∀ j, j < i → E j = 0) ∧ Aside0 (Below w.heap.size w w') ∧ Aside0 (Box w w' g (ten 0 0 0 E0 E0 E0 E0 0 0 0)) ∧ Aside0 (Box w w' p (ten 0 0 0 E0 E0 E0 E0 0 0 0)) ∧ Aside0 (Box w w' q (ten c t1 id E0 E0 E0 E0 0 0 0)) ∧ Aside0 (TBox w w' r (tx V i 0) (tx V i 1) (tx V i 2) (tx V i 3)))
      case atStart => exact ⟨0, rfl, rfl, by omega, ⟨fun j h => absurd h (by omega)⟩, D, A, B, O, R⟩
      case round =>
        clear D A B O R
        obtain ⟨i, rfl, rfl, hm, HE, D, A, B, O, R⟩ := hrel
        by_cases hi : i < T
        · have HG := Aside0.mk (HTX.out i hi).1
          have hq2 : (Q i : Int) + (X i : Int) = (Q (i + 1) : Int) := (HTX.out i hi).2.1
          have hq3 : Q i ≤ s.size := (HTX.out i hi).2.2.1
          have hq4 : Q (i + 1) ≤ s.size := (HTX.out i hi).2.2.2
          have hi4 : (i : Int) < 4 := by omega
          have hiT : (i : Int) < (T : Int) := by omega
          go_upto_if 123 with (first | ((with_reducible refine gate_dst (N := 115) rfl ?_); (with_reducible refine gate_callee (f := 40) rfl ?_); refine goesL_ (some 115) rfl rfl Tryd.func40 (by kernel_rfl) rfl #[.string (s.extract (Q i) s.size), .int .i64 4096] rfl (by (try simp only [List.map_toArray, List.map_cons, List.map_nil]); first | done | rfl) ?_; refine (transeptref01_Text.calls k0 (s.extract (Q i) s.size) 4096 (V i) (X i : Int) (E i) _ HG.out).mono ?_; rintro e wz_ ⟨rfl, hd⟩; refine ⟨_, rfl, ?_⟩; have hb := hd.below; clear hd; have n0_ := Aside0.mk (below_step D.out hb); have n1_ := Aside0.mk (A.out.then_ hb); have n2_ := Aside0.mk (B.out.then_ hb); have n3_ := Aside0.mk (O.out.then_ hb); have n4_ := Aside0.mk (R.out.then_ hb); clear D; clear A; clear B; clear O; clear R; have D := n0_; have A := n1_; have B := n2_; have O := n3_; have R := n4_; clear n0_ n1_ n2_ n3_ n4_; clear hb))
          by_cases he : E i = 0
          · have he2 : (E i != 0) = false := by simp [he]
            have f_ : wz_.frozen? ⟨r, i, none⟩ = false := blk_frozen R.out.blk i
            have x_ : wz_.cell? ⟨r, i, none⟩ = some (.string (tx V i i)) := R.out.at_ (by omega)
            go_wp2
            go_roundg (gk - 1)
            case measure => omega
            case rel => exact ⟨i + 1, rfl, by go_num, by omega, ⟨fun j h => by by_cases e : j = i; (subst e; exact he); exact HE.out j (by omega)⟩, ⟨D.out.setCell R.out.base _⟩, ⟨A.out.far NRA.out _ _⟩, ⟨B.out.far NRB.out _ _⟩, ⟨O.out.far NRO.out _ _⟩, ⟨R.out.put (by omega)⟩⟩
          · have he2 : (E i != 0) = true := by simp [he]
            have HEI := Aside0.mk he
            clear he
            go_upto_region 29 with (fail)
            obtain ⟨BB, hBB⟩ : ∃ BB : Act → World → Prop, BB = fun a w' => bodyPost Tryd.prog Tryd.f18 (fun e w' => e = .returned (.tuple #[.agg RES, .int .i64 AT, .int .i64 ER]) ∧ Below w.heap.size w w') Exit.ret a w' := ⟨_, rfl⟩
            have HBB := Aside0.mk hBB
            clear hBB
            refine exit_region BB (by assumption) (fun a w' h => by rw [HBB.out] at h; (repeat (first | (with_reducible refine thenRet ?_) | (with_reducible refine blockRet ?_))); exact h) ?_
            go_wp2_with (first | ((with_reducible refine gate_dst (N := 124) rfl ?_); refine wpList_load_row ?hgd_124 24 (.tmp 5) ?ho_124 p ?hx_124 ?t_124 ?cs_124 ?fr_124 ?d_124 ?hg_124 ?hu_124 ?hd_124 ?hi_124 ?_; (case hgd_124 => rfl); (case ho_124 => rfl); (case hx_124 => rfl); (case hg_124 => exact B.out.blk); (case hu_124 => exact Tryd.underlying24); (case hd_124 => rfl); (case hi_124 => exact size24)) | ((with_reducible refine gate_store (p := 2) rfl ?_); refine wpList_store_row ?hgd_s124 24 (.tmp 2) (.tmp 124) ?ho_s124 g (ten 0 0 0 E0 E0 E0 E0 0 0 0) ?hx_s124 ?hy_s124 ?t_s124 ?old_s124 ?hg_s124 ?hi_s124 ?hold_s124 ?h1_s124 ?_; (case hgd_s124 => rfl); (case ho_s124 => rfl); (case hx_s124 => rfl); (case hy_s124 => rfl); (case hg_s124 => exact A.out.blk); (case hi_s124 => exact size24); (case hold_s124 => rfl); (case h1_s124 => exact ten_one _ _ _ _ _ _ _ _ _ _); have n0_ := Aside0.mk (setRow_below D.out A.out.base (ten 0 0 0 E0 E0 E0 E0 0 0 0)); have n1_ := Aside0.mk (Box.row A.out (ten 0 0 0 E0 E0 E0 E0 0 0 0)); have n2_ := Aside0.mk (Box.row_far B.out NE.out.symm (ten 0 0 0 E0 E0 E0 E0 0 0 0)); clear D; clear A; clear B; have D := n0_; have A := n1_; have B := n2_; clear n0_ n1_ n2_))
            rw [HBB.out]
            show bodyPost Tryd.prog Tryd.f18 _ Exit.ret _ _
            refine bodyPost_ret (results_cell3 (p := 2) (u := 3) (q := 4) rfl _ _ g 24 _ (0, 0) _ rfl A.out.blk Tryd.underlying24 rfl size24) rfl ?_
            obtain ⟨z1, z2, z3⟩ := HXT.out i hi HEI.out HE.out
            exact ⟨by rw [z1, z2, z3]; rfl, D.out⟩
        · obtain rfl : i = T := by omega
          have x_ : wr.cell? ⟨r, 0, none⟩ = some (.string (tx V i 0)) := blk_cell R.out.blk 0
          obtain ⟨c0, c1, c2, c3, c4, c5, c6, c7, c8, c9⟩ := O.out.read
          obtain ⟨o0, o1, o2, o3, o4, o5, o6, o7, o8, o9⟩ := O.out.free
          go_upto_region 32 with (fail)
          clear c0 c1 c2 c3 c4 c5 c6 c7 c8 c9 o0 o1 o2 o3 o4 o5 o6 o7 o8 o9
          clear x_
          obtain ⟨W7, hW7⟩ : ∃ W_, W_ = wr.setCell ⟨q, 3, none⟩ (.string (tx V i 0)) := ⟨_, rfl⟩
          rw [← hW7]
          have O' := Aside0.mk (show Box w W7 q (ten c t1 id (tx V i 0) E0 E0 E0 0 0 0) by rw [hW7]; exact ⟨O.out.base, blk_put O.out.blk 3 _ rfl⟩)
          have A' := Aside0.mk (show Box w W7 g (ten 0 0 0 E0 E0 E0 E0 0 0 0) by rw [hW7]; exact A.out.far NA.out _ _)
          have B' := Aside0.mk (show Box w W7 p (ten 0 0 0 E0 E0 E0 E0 0 0 0) by rw [hW7]; exact B.out.far NB.out _ _)
          have D' := Aside0.mk (show Below w.heap.size w W7 by rw [hW7]; exact D.out.setCell O.out.base _)
          have R' := Aside0.mk (show TBox w W7 r (tx V i 0) (tx V i 1) (tx V i 2) (tx V i 3) by rw [hW7]; exact R.out.far NRO.out.symm _ _)
          clear hW7 O A B D R
          have O := O'
          clear O'
          have A := A'
          clear A'
          have B := B'
          clear B'
          have D := D'
          clear D'
          have R := R'
          clear R'
          have x_ : W7.cell? ⟨r, 1, none⟩ = some (.string (tx V i 1)) := blk_cell R.out.blk 1
          obtain ⟨c0, c1, c2, c3, c4, c5, c6, c7, c8, c9⟩ := O.out.read
          obtain ⟨o0, o1, o2, o3, o4, o5, o6, o7, o8, o9⟩ := O.out.free
          go_upto_region 33 with (fail)
          clear c0 c1 c2 c3 c4 c5 c6 c7 c8 c9 o0 o1 o2 o3 o4 o5 o6 o7 o8 o9
          clear x_
          obtain ⟨W8, hW8⟩ : ∃ W_, W_ = W7.setCell ⟨q, 4, none⟩ (.string (tx V i 1)) := ⟨_, rfl⟩
          rw [← hW8]
          have O' := Aside0.mk (show Box w W8 q (ten c t1 id (tx V i 0) (tx V i 1) E0 E0 0 0 0) by rw [hW8]; exact ⟨O.out.base, blk_put O.out.blk 4 _ rfl⟩)
          have A' := Aside0.mk (show Box w W8 g (ten 0 0 0 E0 E0 E0 E0 0 0 0) by rw [hW8]; exact A.out.far NA.out _ _)
          have B' := Aside0.mk (show Box w W8 p (ten 0 0 0 E0 E0 E0 E0 0 0 0) by rw [hW8]; exact B.out.far NB.out _ _)
          have D' := Aside0.mk (show Below w.heap.size w W8 by rw [hW8]; exact D.out.setCell O.out.base _)
          have R' := Aside0.mk (show TBox w W8 r (tx V i 0) (tx V i 1) (tx V i 2) (tx V i 3) by rw [hW8]; exact R.out.far NRO.out.symm _ _)
          clear hW8 O A B D R
          have O := O'
          clear O'
          have A := A'
          clear A'
          have B := B'
          clear B'
          have D := D'
          clear D'
          have R := R'
          clear R'
          have x_ : W8.cell? ⟨r, 2, none⟩ = some (.string (tx V i 2)) := blk_cell R.out.blk 2
          obtain ⟨c0, c1, c2, c3, c4, c5, c6, c7, c8, c9⟩ := O.out.read
          obtain ⟨o0, o1, o2, o3, o4, o5, o6, o7, o8, o9⟩ := O.out.free
          go_upto_region 34 with (fail)
          clear c0 c1 c2 c3 c4 c5 c6 c7 c8 c9 o0 o1 o2 o3 o4 o5 o6 o7 o8 o9
          clear x_
          obtain ⟨W9, hW9⟩ : ∃ W_, W_ = W8.setCell ⟨q, 5, none⟩ (.string (tx V i 2)) := ⟨_, rfl⟩
          rw [← hW9]
          have O' := Aside0.mk (show Box w W9 q (ten c t1 id (tx V i 0) (tx V i 1) (tx V i 2) E0 0 0 0) by rw [hW9]; exact ⟨O.out.base, blk_put O.out.blk 5 _ rfl⟩)
          have A' := Aside0.mk (show Box w W9 g (ten 0 0 0 E0 E0 E0 E0 0 0 0) by rw [hW9]; exact A.out.far NA.out _ _)
          have B' := Aside0.mk (show Box w W9 p (ten 0 0 0 E0 E0 E0 E0 0 0 0) by rw [hW9]; exact B.out.far NB.out _ _)
          have D' := Aside0.mk (show Below w.heap.size w W9 by rw [hW9]; exact D.out.setCell O.out.base _)
          have R' := Aside0.mk (show TBox w W9 r (tx V i 0) (tx V i 1) (tx V i 2) (tx V i 3) by rw [hW9]; exact R.out.far NRO.out.symm _ _)
          clear hW9 O A B D R
          have O := O'
          clear O'
          have A := A'
          clear A'
          have B := B'
          clear B'
          have D := D'
          clear D'
          have R := R'
          clear R'
          have x_ : W9.cell? ⟨r, 3, none⟩ = some (.string (tx V i 3)) := blk_cell R.out.blk 3
          obtain ⟨c0, c1, c2, c3, c4, c5, c6, c7, c8, c9⟩ := O.out.read
          obtain ⟨o0, o1, o2, o3, o4, o5, o6, o7, o8, o9⟩ := O.out.free
          go_upto_region 35 with (fail)
          clear c0 c1 c2 c3 c4 c5 c6 c7 c8 c9 o0 o1 o2 o3 o4 o5 o6 o7 o8 o9
          clear x_
          obtain ⟨W10, hW10⟩ : ∃ W_, W_ = W9.setCell ⟨q, 6, none⟩ (.string (tx V i 3)) := ⟨_, rfl⟩
          rw [← hW10]
          have O' := Aside0.mk (show Box w W10 q (ten c t1 id (tx V i 0) (tx V i 1) (tx V i 2) (tx V i 3) 0 0 0) by rw [hW10]; exact ⟨O.out.base, blk_put O.out.blk 6 _ rfl⟩)
          have A' := Aside0.mk (show Box w W10 g (ten 0 0 0 E0 E0 E0 E0 0 0 0) by rw [hW10]; exact A.out.far NA.out _ _)
          have B' := Aside0.mk (show Box w W10 p (ten 0 0 0 E0 E0 E0 E0 0 0 0) by rw [hW10]; exact B.out.far NB.out _ _)
          have D' := Aside0.mk (show Below w.heap.size w W10 by rw [hW10]; exact D.out.setCell O.out.base _)
          have R' := Aside0.mk (show TBox w W10 r (tx V i 0) (tx V i 1) (tx V i 2) (tx V i 3) by rw [hW10]; exact R.out.far NRO.out.symm _ _)
          clear hW10 O A B D R
          have O := O'
          clear O'
          have A := A'
          clear A'
          have B := B'
          clear B'
          have D := D'
          clear D'
          have R := R'
          clear R'
          obtain ⟨u, hu⟩ : ∃ u, u = W10.heap.size := ⟨_, rfl⟩
          go_upto_region 36 with (fail)
          obtain ⟨W11, hW11⟩ : ∃ W_, W_ = W10.alloc (.cells #[.int .i64 0, .int .i64 0, .int .i64 0] 3) := ⟨_, rfl⟩
          rw [← hW11, ← hu]
          have U := Aside0.mk (show NBox w W11 u 0 0 0 by rw [hW11, hu]; exact ⟨D.out.size, blk_new _ _⟩)
          have NUA := Aside0.mk (show g ≠ u by have h1_ := blk_lt A.out.blk; omega)
          have NUB := Aside0.mk (show p ≠ u by have h1_ := blk_lt B.out.blk; omega)
          have NUO := Aside0.mk (show q ≠ u by have h1_ := blk_lt O.out.blk; omega)
          have NUR := Aside0.mk (show r ≠ u by have h1_ := blk_lt R.out.blk; omega)
          have A' := Aside0.mk (show Box w W11 g (ten 0 0 0 E0 E0 E0 E0 0 0 0) by rw [hW11]; exact A.out.alloc _)
          have B' := Aside0.mk (show Box w W11 p (ten 0 0 0 E0 E0 E0 E0 0 0 0) by rw [hW11]; exact B.out.alloc _)
          have O' := Aside0.mk (show Box w W11 q (ten c t1 id (tx V i 0) (tx V i 1) (tx V i 2) (tx V i 3) 0 0 0) by rw [hW11]; exact O.out.alloc _)
          have D' := Aside0.mk (show Below w.heap.size w W11 by rw [hW11]; exact below_alloc D.out _)
          clear hW11 hu A B O D R
          have A := A'
          clear A'
          have B := B'
          clear B'
          have O := O'
          clear O'
          have D := D'
          clear D'
          have HNM := Aside0.mk hNM
          have HXN := Aside0.mk hXN
          have HXE := Aside0.mk hXE
          clear hNM hXN hXE
          have e0_ : Q i = PN 0 := hPN0.symm
          rw [e0_]
          clear e0_ hPN0
          go_wp2_with (fail)
          go_loopg [11, 22] Lt.size (fun m v11 v22 w' => ∃ j : Nat, v11 = .int .i64 (PN j : Int) ∧ v22 = .int .i64 (j : Int) ∧ j + m = Lt.size ∧ Aside0 (∀ k, k < j → F k = 0) ∧ Aside0 (Below w.heap.size w w') ∧ Aside0 (Box w w' g (ten 0 0 0 E0 E0 E0 E0 0 0 0)) ∧ Aside0 (Box w w' p (ten 0 0 0 E0 E0 E0 E0 0 0 0)) ∧ Aside0 (Box w w' q (ten c t1 id (tx V i 0) (tx V i 1) (tx V i 2) (tx V i 3) 0 0 0)) ∧ Aside0 (NBox w w' u (nm Y j 0) (nm Y j 1) (nm Y j 2)))
          case atStart => exact ⟨0, rfl, rfl, by omega, ⟨fun j h => absurd h (by omega)⟩, D, A, B, O, U⟩
          case round =>
            clear D A B O U
            obtain ⟨j, rfl, rfl, hmj, HF, D, A, B, O, U⟩ := hrel
            by_cases hj : j < Lt.size
            · have HM := Aside0.mk (HNM.out j hj).1
              have HG := Aside0.mk (HNM.out j hj).2.1
              have hq2 : (PN j : Int) + 1 = (PN (j + 1) : Int) := (HNM.out j hj).2.2.1
              have hln := (HNM.out j hj).2.2.2.1
              have h115 : (Ln j == 115) = false := (HNM.out j hj).2.2.2.2.1
              have hw1 : wrap64 (Y j) = Y j := (HNM.out j hj).2.2.2.2.2.1
              have hpn : PN (j + 1) ≤ 200000 := (HNM.out j hj).2.2.2.2.2.2
              have hw0 : wrap64 (0 + Y j) = Y j := by rw [Int.zero_add]; exact hw1
              have hj3 : (j : Int) < 3 := by omega
              have hjT : (j : Int) < (Lt.size : Int) := by omega
              go_upto_if 188 with (first | ((with_reducible refine gate_dst (N := 157) rfl ?_); (with_reducible refine gate_callee (f := 29) rfl ?_); refine goesL_ (some 157) rfl rfl Tryd.func29 (by kernel_rfl) rfl #[.int .u8 (Ln j)] rfl (by (try simp only [List.map_toArray, List.map_cons, List.map_nil]); first | done | rfl) ?_; refine (transeptref05_most.calls (Ln j) (M j) _ HM.out).mono ?_; rintro e wz_ ⟨rfl, hd⟩; refine ⟨_, rfl, ?_⟩; have hb := hd.below; clear hd; have n0_ := Aside0.mk (below_step D.out hb); have n1_ := Aside0.mk (A.out.then_ hb); have n2_ := Aside0.mk (B.out.then_ hb); have n3_ := Aside0.mk (O.out.then_ hb); have n4_ := Aside0.mk (U.out.then_ hb); clear D; clear A; clear B; clear O; clear U; have D := n0_; have A := n1_; have B := n2_; have O := n3_; have U := n4_; clear n0_ n1_ n2_ n3_ n4_; clear hb) | ((with_reducible refine gate_dst (N := 184) rfl ?_); (with_reducible refine gate_callee (f := 41) rfl ?_); refine goesL_ (some 184) rfl rfl Tryd.func41 (by kernel_rfl) rfl #[.string s, .int .i64 (PN j : Int), .int .i64 (M j)] rfl (by (try simp only [List.map_toArray, List.map_cons, List.map_nil]); first | done | rfl) ?_; refine (transeptref05_bounded.calls s (PN j : Int) (M j) (Y j) (F j) _ HG.out).mono ?_; rintro e wz_ ⟨rfl, hd⟩; refine ⟨_, rfl, ?_⟩; have hb := hd.below; clear hd; have n0_ := Aside0.mk (below_step D.out hb); have n1_ := Aside0.mk (A.out.then_ hb); have n2_ := Aside0.mk (B.out.then_ hb); have n3_ := Aside0.mk (O.out.then_ hb); have n4_ := Aside0.mk (U.out.then_ hb); clear D; clear A; clear B; clear O; clear U; have D := n0_; have A := n1_; have B := n2_; have O := n3_; have U := n4_; clear n0_ n1_ n2_ n3_ n4_; clear hb))
              by_cases he : F j = 0
              · have he2 : (F j != 0) = false := by simp [he]
                have f_ : wz_.frozen? ⟨u, j, none⟩ = false := blk_frozen U.out.blk j
                have x_ : wz_.cell? ⟨u, j, none⟩ = some (.int .i64 (nm Y j j)) := U.out.at_ (by omega)
                go_wp2
                go_roundg (gk - 1)
                case measure => omega
                case rel => exact ⟨j + 1, rfl, by go_num, by omega, ⟨fun k h => by by_cases e : k = j; (subst e; exact he); exact HF.out k (by omega)⟩, ⟨D.out.setCell U.out.base _⟩, ⟨A.out.far NUA.out _ _⟩, ⟨B.out.far NUB.out _ _⟩, ⟨O.out.far NUO.out _ _⟩, ⟨U.out.put (by omega)⟩⟩
              · have he2 : (F j != 0) = true := by simp [he]
                have HEI := Aside0.mk he
                clear he
                go_upto_region 50 with (fail)
                obtain ⟨BB, hBB⟩ : ∃ BB : Act → World → Prop, BB = fun a w' => bodyPost Tryd.prog Tryd.f18 (fun e w' => e = .returned (.tuple #[.agg RES, .int .i64 AT, .int .i64 ER]) ∧ Below w.heap.size w w') Exit.ret a w' := ⟨_, rfl⟩
                have HBB := Aside0.mk hBB
                clear hBB
                refine exit_region BB (by assumption) (fun a w' h => by rw [HBB.out] at h; (repeat (first | (with_reducible refine thenRet ?_) | (with_reducible refine blockRet ?_))); exact h) ?_
                go_wp2_with (first | ((with_reducible refine gate_dst (N := 189) rfl ?_); refine wpList_load_row ?hgd_189 24 (.tmp 5) ?ho_189 p ?hx_189 ?t_189 ?cs_189 ?fr_189 ?d_189 ?hg_189 ?hu_189 ?hd_189 ?hi_189 ?_; (case hgd_189 => rfl); (case ho_189 => rfl); (case hx_189 => rfl); (case hg_189 => exact B.out.blk); (case hu_189 => exact Tryd.underlying24); (case hd_189 => rfl); (case hi_189 => exact size24)) | ((with_reducible refine gate_store (p := 2) rfl ?_); refine wpList_store_row ?hgd_s189 24 (.tmp 2) (.tmp 189) ?ho_s189 g (ten 0 0 0 E0 E0 E0 E0 0 0 0) ?hx_s189 ?hy_s189 ?t_s189 ?old_s189 ?hg_s189 ?hi_s189 ?hold_s189 ?h1_s189 ?_; (case hgd_s189 => rfl); (case ho_s189 => rfl); (case hx_s189 => rfl); (case hy_s189 => rfl); (case hg_s189 => exact A.out.blk); (case hi_s189 => exact size24); (case hold_s189 => rfl); (case h1_s189 => exact ten_one _ _ _ _ _ _ _ _ _ _); have n0_ := Aside0.mk (setRow_below D.out A.out.base (ten 0 0 0 E0 E0 E0 E0 0 0 0)); have n1_ := Aside0.mk (Box.row A.out (ten 0 0 0 E0 E0 E0 E0 0 0 0)); have n2_ := Aside0.mk (Box.row_far B.out NE.out.symm (ten 0 0 0 E0 E0 E0 E0 0 0 0)); clear D; clear A; clear B; have D := n0_; have A := n1_; have B := n2_; clear n0_ n1_ n2_))
                rw [HBB.out]
                show bodyPost Tryd.prog Tryd.f18 _ Exit.ret _ _
                refine bodyPost_ret (results_cell3 (p := 2) (u := 3) (q := 4) rfl _ _ g 24 _ (0, 0) _ rfl A.out.blk Tryd.underlying24 rfl size24) rfl ?_
                obtain ⟨z1, z2, z3⟩ := HXN.out HE.out j hj HEI.out HF.out
                exact ⟨by rw [z1, z2, z3]; rfl, D.out⟩
            · have HJ := Aside0.mk (show j = Lt.size by omega)
              have x_ : wr.cell? ⟨u, 0, none⟩ = some (.int .i64 (nm Y j 0)) := blk_cell U.out.blk 0
              obtain ⟨c0, c1, c2, c3, c4, c5, c6, c7, c8, c9⟩ := O.out.read
              obtain ⟨o0, o1, o2, o3, o4, o5, o6, o7, o8, o9⟩ := O.out.free
              go_upto_region 54 with (fail)
              clear c0 c1 c2 c3 c4 c5 c6 c7 c8 c9 o0 o1 o2 o3 o4 o5 o6 o7 o8 o9
              clear x_
              obtain ⟨W12, hW12⟩ : ∃ W_, W_ = wr.setCell ⟨q, 7, none⟩ (.int .i64 (nm Y j 0)) := ⟨_, rfl⟩
              rw [← hW12]
              have O' := Aside0.mk (show Box w W12 q (ten c t1 id (tx V i 0) (tx V i 1) (tx V i 2) (tx V i 3) (nm Y j 0) 0 0) by rw [hW12]; exact ⟨O.out.base, blk_put O.out.blk 7 _ rfl⟩)
              have A' := Aside0.mk (show Box w W12 g (ten 0 0 0 E0 E0 E0 E0 0 0 0) by rw [hW12]; exact A.out.far NA.out _ _)
              have B' := Aside0.mk (show Box w W12 p (ten 0 0 0 E0 E0 E0 E0 0 0 0) by rw [hW12]; exact B.out.far NB.out _ _)
              have D' := Aside0.mk (show Below w.heap.size w W12 by rw [hW12]; exact D.out.setCell O.out.base _)
              have U' := Aside0.mk (show NBox w W12 u (nm Y j 0) (nm Y j 1) (nm Y j 2) by rw [hW12]; exact U.out.far NUO.out.symm _ _)
              clear hW12 O A B D U
              have O := O'
              clear O'
              have A := A'
              clear A'
              have B := B'
              clear B'
              have D := D'
              clear D'
              have U := U'
              clear U'
              have x_ : W12.cell? ⟨u, 1, none⟩ = some (.int .i64 (nm Y j 1)) := blk_cell U.out.blk 1
              obtain ⟨c0, c1, c2, c3, c4, c5, c6, c7, c8, c9⟩ := O.out.read
              obtain ⟨o0, o1, o2, o3, o4, o5, o6, o7, o8, o9⟩ := O.out.free
              go_upto_region 55 with (fail)
              clear c0 c1 c2 c3 c4 c5 c6 c7 c8 c9 o0 o1 o2 o3 o4 o5 o6 o7 o8 o9
              clear x_
              obtain ⟨W13, hW13⟩ : ∃ W_, W_ = W12.setCell ⟨q, 8, none⟩ (.int .i64 (nm Y j 1)) := ⟨_, rfl⟩
              rw [← hW13]
              have O' := Aside0.mk (show Box w W13 q (ten c t1 id (tx V i 0) (tx V i 1) (tx V i 2) (tx V i 3) (nm Y j 0) (nm Y j 1) 0) by rw [hW13]; exact ⟨O.out.base, blk_put O.out.blk 8 _ rfl⟩)
              have A' := Aside0.mk (show Box w W13 g (ten 0 0 0 E0 E0 E0 E0 0 0 0) by rw [hW13]; exact A.out.far NA.out _ _)
              have B' := Aside0.mk (show Box w W13 p (ten 0 0 0 E0 E0 E0 E0 0 0 0) by rw [hW13]; exact B.out.far NB.out _ _)
              have D' := Aside0.mk (show Below w.heap.size w W13 by rw [hW13]; exact D.out.setCell O.out.base _)
              have U' := Aside0.mk (show NBox w W13 u (nm Y j 0) (nm Y j 1) (nm Y j 2) by rw [hW13]; exact U.out.far NUO.out.symm _ _)
              clear hW13 O A B D U
              have O := O'
              clear O'
              have A := A'
              clear A'
              have B := B'
              clear B'
              have D := D'
              clear D'
              have U := U'
              clear U'
              have x_ : W13.cell? ⟨u, 2, none⟩ = some (.int .i64 (nm Y j 2)) := blk_cell U.out.blk 2
              obtain ⟨c0, c1, c2, c3, c4, c5, c6, c7, c8, c9⟩ := O.out.read
              obtain ⟨o0, o1, o2, o3, o4, o5, o6, o7, o8, o9⟩ := O.out.free
              go_upto_region 56 with (fail)
              clear c0 c1 c2 c3 c4 c5 c6 c7 c8 c9 o0 o1 o2 o3 o4 o5 o6 o7 o8 o9
              clear x_
              obtain ⟨W14, hW14⟩ : ∃ W_, W_ = W13.setCell ⟨q, 9, none⟩ (.int .i64 (nm Y j 2)) := ⟨_, rfl⟩
              rw [← hW14]
              have O' := Aside0.mk (show Box w W14 q (ten c t1 id (tx V i 0) (tx V i 1) (tx V i 2) (tx V i 3) (nm Y j 0) (nm Y j 1) (nm Y j 2)) by rw [hW14]; exact ⟨O.out.base, blk_put O.out.blk 9 _ rfl⟩)
              have A' := Aside0.mk (show Box w W14 g (ten 0 0 0 E0 E0 E0 E0 0 0 0) by rw [hW14]; exact A.out.far NA.out _ _)
              have B' := Aside0.mk (show Box w W14 p (ten 0 0 0 E0 E0 E0 E0 0 0 0) by rw [hW14]; exact B.out.far NB.out _ _)
              have D' := Aside0.mk (show Below w.heap.size w W14 by rw [hW14]; exact D.out.setCell O.out.base _)
              have U' := Aside0.mk (show NBox w W14 u (nm Y j 0) (nm Y j 1) (nm Y j 2) by rw [hW14]; exact U.out.far NUO.out.symm _ _)
              clear hW14 O A B D U
              have O := O'
              clear O'
              have A := A'
              clear A'
              have B := B'
              clear B'
              have D := D'
              clear D'
              have U := U'
              clear U'
              have HXF := Aside0.mk (HXE.out HE.out (fun k h => HF.out k (by rw [HJ.out]; exact h)))
              rw [← HJ.out] at HXF
              by_cases hend : PN j < s.size
              · have hend2 : ((PN j : Int) < (s.size : Int)) := by omega
                go_upto_region 57 with (fail)
                obtain ⟨BB, hBB⟩ : ∃ BB : Act → World → Prop, BB = fun a w' => bodyPost Tryd.prog Tryd.f18 (fun e w' => e = .returned (.tuple #[.agg RES, .int .i64 AT, .int .i64 ER]) ∧ Below w.heap.size w w') Exit.ret a w' := ⟨_, rfl⟩
                have HBB := Aside0.mk hBB
                clear hBB
                refine exit_region BB (by assumption) (fun a w' h => by rw [HBB.out] at h; (repeat (first | (with_reducible refine thenRet ?_) | (with_reducible refine blockRet ?_))); exact h) ?_
                go_wp2_with (first | ((with_reducible refine gate_dst (N := 216) rfl ?_); refine wpList_load_row ?hgd_216 24 (.tmp 5) ?ho_216 p ?hx_216 ?t_216 ?cs_216 ?fr_216 ?d_216 ?hg_216 ?hu_216 ?hd_216 ?hi_216 ?_; (case hgd_216 => rfl); (case ho_216 => rfl); (case hx_216 => rfl); (case hg_216 => exact B.out.blk); (case hu_216 => exact Tryd.underlying24); (case hd_216 => rfl); (case hi_216 => exact size24)) | ((with_reducible refine gate_store (p := 2) rfl ?_); refine wpList_store_row ?hgd_s216 24 (.tmp 2) (.tmp 216) ?ho_s216 g (ten 0 0 0 E0 E0 E0 E0 0 0 0) ?hx_s216 ?hy_s216 ?t_s216 ?old_s216 ?hg_s216 ?hi_s216 ?hold_s216 ?h1_s216 ?_; (case hgd_s216 => rfl); (case ho_s216 => rfl); (case hx_s216 => rfl); (case hy_s216 => rfl); (case hg_s216 => exact A.out.blk); (case hi_s216 => exact size24); (case hold_s216 => rfl); (case h1_s216 => exact ten_one _ _ _ _ _ _ _ _ _ _); have n0_ := Aside0.mk (setRow_below D.out A.out.base (ten 0 0 0 E0 E0 E0 E0 0 0 0)); have n1_ := Aside0.mk (Box.row A.out (ten 0 0 0 E0 E0 E0 E0 0 0 0)); have n2_ := Aside0.mk (Box.row_far B.out NE.out.symm (ten 0 0 0 E0 E0 E0 E0 0 0 0)); clear D; clear A; clear B; have D := n0_; have A := n1_; have B := n2_; clear n0_ n1_ n2_))
                rw [HBB.out]
                show bodyPost Tryd.prog Tryd.f18 _ Exit.ret _ _
                refine bodyPost_ret (results_cell3 (p := 2) (u := 3) (q := 4) rfl _ _ g 24 _ (0, 0) _ rfl A.out.blk Tryd.underlying24 rfl size24) rfl ?_
                obtain ⟨z1, z2, z3⟩ := HXF.out.1 hend
                exact ⟨by rw [z1, z2, z3]; rfl, D.out⟩
              · have hend2 : ¬ ((PN j : Int) < (s.size : Int)) := by omega
                go_upto_region 58 with (fail)
                obtain ⟨BB, hBB⟩ : ∃ BB : Act → World → Prop, BB = fun a w' => bodyPost Tryd.prog Tryd.f18 (fun e w' => e = .returned (.tuple #[.agg RES, .int .i64 AT, .int .i64 ER]) ∧ Below w.heap.size w w') Exit.ret a w' := ⟨_, rfl⟩
                have HBB := Aside0.mk hBB
                clear hBB
                refine exit_region BB (by assumption) (fun a w' h => by rw [HBB.out] at h; (repeat (first | (with_reducible refine thenRet ?_) | (with_reducible refine blockRet ?_))); exact h) ?_
                go_wp2_with (first | ((with_reducible refine gate_dst (N := 218) rfl ?_); refine wpList_load_row ?hgd_218 24 (.tmp 7) ?ho_218 q ?hx_218 ?t_218 ?cs_218 ?fr_218 ?d_218 ?hg_218 ?hu_218 ?hd_218 ?hi_218 ?_; (case hgd_218 => rfl); (case ho_218 => rfl); (case hx_218 => rfl); (case hg_218 => exact O.out.blk); (case hu_218 => exact Tryd.underlying24); (case hd_218 => rfl); (case hi_218 => exact size24)) | ((with_reducible refine gate_store (p := 2) rfl ?_); refine wpList_store_row ?hgd_s218 24 (.tmp 2) (.tmp 218) ?ho_s218 g (ten c t1 id (tx V i 0) (tx V i 1) (tx V i 2) (tx V i 3) (nm Y j 0) (nm Y j 1) (nm Y j 2)) ?hx_s218 ?hy_s218 ?t_s218 ?old_s218 ?hg_s218 ?hi_s218 ?hold_s218 ?h1_s218 ?_; (case hgd_s218 => rfl); (case ho_s218 => rfl); (case hx_s218 => rfl); (case hy_s218 => rfl); (case hg_s218 => exact A.out.blk); (case hi_s218 => exact size24); (case hold_s218 => rfl); (case h1_s218 => exact ten_one _ _ _ _ _ _ _ _ _ _); have n0_ := Aside0.mk (setRow_below D.out A.out.base (ten c t1 id (tx V i 0) (tx V i 1) (tx V i 2) (tx V i 3) (nm Y j 0) (nm Y j 1) (nm Y j 2))); have n1_ := Aside0.mk (Box.row A.out (ten c t1 id (tx V i 0) (tx V i 1) (tx V i 2) (tx V i 3) (nm Y j 0) (nm Y j 1) (nm Y j 2))); have n2_ := Aside0.mk (Box.row_far B.out NE.out.symm (ten c t1 id (tx V i 0) (tx V i 1) (tx V i 2) (tx V i 3) (nm Y j 0) (nm Y j 1) (nm Y j 2))); clear D; clear A; clear B; have D := n0_; have A := n1_; have B := n2_; clear n0_ n1_ n2_))
                rw [HBB.out]
                show bodyPost Tryd.prog Tryd.f18 _ Exit.ret _ _
                refine bodyPost_ret (results_cell3 (p := 2) (u := 3) (q := 4) rfl _ _ g 24 _ (0, 0) _ rfl A.out.blk Tryd.underlying24 rfl size24) rfl ?_
                obtain ⟨z1, z2, z3⟩ := HXF.out.2 hend
                exact ⟨by rw [z1, z2, z3]; rfl, D.out⟩
end Go.Proofs.YtmlhlcdamppbfaaDoor.Xa
namespace Go.Proofs.YtmlhlcdamppbfaaDoor.Xa
open Go.RowKit Go.Proofs.YtmlhlcdamppbfaaDoor.Ext Go.Proofs.YtmlhlcdamppbfaaDoor.Pure Go.Proofs.YtmlhlcdamppbfaaDoorW.PrintWords Go.Proofs.YtmlhlcdamppbfaaDoorW.PrintLast Go.Proofs.YtmlhlcdamppbfaaDoorW.PrintMore
attribute [local go_sem] max2_int min2_int max_two min_two max_three min_three max_four min_four
set_option linter.unusedVariables false
set_option linter.unusedSimpArgs false
set_option maxHeartbeats 2000000 in
set_option maxRecDepth 100000 in
theorem dec_status (s : ByteArray) (c : Int) (k0 : Nat) (hs : s.toList.isEmpty = false) (hz : 0 < s.size) (hmx : s.size ≤ 100000) (hc : ∀ h : 0 < s.size, ((s[0]'h).toNat : Int) = c) (hc0 : 0 ≤ c) (hc1 : c < 256) (sh : ByteArray) (hsh : transeptref05_Shape.f k0 c = some sh) (hne : (sh.toList == ([45] : List UInt8)) = false) (t1 : Int) (p1 P : Nat) (hg1 : transeptref01_Get.f k0 (s.extract 1 s.size) = some (t1, (p1 : Int), 0)) (hP : (1 : Int) + (p1 : Int) = (P : Int)) (hPs : P ≤ s.size) (al : Bool) (hal : (decide (c = 1) || decide (c = 2)) = al) (x1 : Int) (hx1 : ∀ h : P < s.size, ((s[P]'h).toNat : Int) = x1) (id : Int) (k2 P2 : Nat) (hpass : P < s.size → (al != (x1 == 0)) = false) (hg2 : transeptref01_Get.f k0 (s.extract P s.size) = some (id, (k2 : Int), 0)) (hP2 : (P : Int) + (k2 : Int) = (P2 : Int)) (hP2s : P2 ≤ s.size) (T : Nat) (Lt : ByteArray) (hsp : transeptref05_split.f k0 sh = some ((T : Int), Lt)) (V : Nat → ByteArray) (Q X : Nat → Nat) (E : Nat → Int) (hQ0 : Q 0 = P2) (hT4 : T ≤ 4) (hTX : ∀ i, i < T → transeptref01_Text.f k0 (s.extract (Q i) s.size) 4096 = some (V i, (X i : Int), E i) ∧ (Q i : Int) + (X i : Int) = (Q (i + 1) : Int) ∧ Q i ≤ s.size ∧ Q (i + 1) ≤ s.size) (RES : Array Value) (AT ER : Int) (hXT : ∀ i, i < T → E i ≠ 0 → (∀ j, j < i → E j = 0) → RES = (ten 0 0 0 E0 E0 E0 E0 0 0 0) ∧ AT = (Q (i + 1) : Int) ∧ ER = E i) (PN : Nat → Nat) (Y : Nat → Int) (Q1 : Nat) (XH FH XL FL MM : Int) (hLs : Lt.size = 1) (hPN0 : PN 0 = Q T) (hPN1 : (Q1 : Int) + 1 = (PN 1 : Int)) (hQ1 : (PN 0 : Int) + 1 = (Q1 : Int)) (hQb : Q1 ≤ 100000) (hNM : transeptref05_bounded.f s (PN 0 : Int) 3 = some (XH, FH) ∧ (∀ h : 0 < Lt.size, ((Lt[0]'h).toNat : Int) = 115) ∧ (FH = 0 → transeptref05_bounded.f s (Q1 : Int) MM = some (XL, FL) ∧ 0 ≤ XH ∧ XH ≤ 3 ∧ 0 ≤ XL ∧ XL ≤ 255 ∧ (if 999 - XH * 256 < 255 then 999 - XH * 256 else 255) = MM ∧ XH * 256 + XL = Y 0)) (hXN : (∀ j, j < T → E j = 0) → FH ≠ 0 → RES = (ten 0 0 0 E0 E0 E0 E0 0 0 0) ∧ AT = (PN 0 : Int) ∧ ER = FH) (hXM : (∀ j, j < T → E j = 0) → FH = 0 → FL ≠ 0 → RES = (ten 0 0 0 E0 E0 E0 E0 0 0 0) ∧ AT = (Q1 : Int) ∧ ER = FL) (hXE : (∀ j, j < T → E j = 0) → (FH = 0 ∧ FL = 0) → (PN Lt.size < s.size → RES = (ten 0 0 0 E0 E0 E0 E0 0 0 0) ∧ AT = (PN Lt.size : Int) ∧ ER = 8) ∧ (¬ PN Lt.size < s.size → RES = (ten c t1 id (tx V T 0) (tx V T 1) (tx V T 2) (tx V T 3) (nm Y Lt.size 0) (nm Y Lt.size 1) (nm Y Lt.size 2)) ∧ AT = (PN Lt.size : Int) ∧ ER = 0)) (w : World) :
    Calls Tryd.prog 18 #[.string s] w fun e w' => e = .returned (.tuple #[.agg RES, .int .i64 AT, .int .i64 ER]) ∧ Below w.heap.size w w' := by
  have hs2 : (s.toList == ([] : List UInt8)) = false := by rw [beq_eq_false_iff_ne]; intro e; rw [e] at hs; simp at hs
  have HSH := Aside0.mk hsh
  clear hsh
  have HG1 := Aside0.mk hg1
  clear hg1
  go_enter Tryd.func18, Tryd.ntmps18
  go_upto_if 31 with (fail)
  obtain ⟨g, hg⟩ : ∃ g, g = w.heap.size := ⟨_, rfl⟩
  obtain ⟨p, hp⟩ : ∃ p, p = w.heap.size + 1 := ⟨_, rfl⟩
  obtain ⟨W1, hW1⟩ : ∃ W, W = (w.alloc (.cells (ten 0 0 0 E0 E0 E0 E0 0 0 0) 24)).alloc (.cells (ten 0 0 0 E0 E0 E0 E0 0 0 0) 24) := ⟨_, rfl⟩
  rw [← hW1, ← hp, ← hg]
  have A := Aside0.mk (show Box w W1 g (ten 0 0 0 E0 E0 E0 E0 0 0 0) by rw [hW1, hg]; exact (Box.new (Nat.le_refl _) _).alloc _)
  have B := Aside0.mk (show Box w W1 p (ten 0 0 0 E0 E0 E0 E0 0 0 0) by
    have e : p = (w.alloc (.cells (ten 0 0 0 E0 E0 E0 E0 0 0 0) 24)).heap.size := by rw [hp]; simp
    rw [hW1, e]; exact Box.new (by simp) _)
  have D := Aside0.mk (show Below w.heap.size w W1 by rw [hW1]; exact below_alloc (below_alloc (Below.refl _ _) _) _)
  have NE := Aside0.mk (show g ≠ p by omega)
  clear hW1 hg hp
  go_upto_region 8 with (first | ((with_reducible refine gate_dst (N := 36) rfl ?_); (with_reducible refine gate_callee (f := 27) rfl ?_); refine goesL_ (some 36) rfl rfl Tryd.func27 (by kernel_rfl) rfl #[.int .i64 c] rfl (by (try simp only [List.map_toArray, List.map_cons, List.map_nil]); first | done | rfl) ?_; refine (transeptref05_Shape.calls k0 c sh _ HSH.out).mono ?_; rintro e wz_ ⟨rfl, hd⟩; refine ⟨_, rfl, ?_⟩; have hb := hd.below; clear hd; have n0_ := Aside0.mk (below_step D.out hb); have n1_ := Aside0.mk (A.out.then_ hb); have n2_ := Aside0.mk (B.out.then_ hb); clear D; clear A; clear B; have D := n0_; have A := n1_; have B := n2_; clear n0_ n1_ n2_; clear hb))
  obtain ⟨q, hq⟩ : ∃ q, q = wz_.heap.size := ⟨_, rfl⟩
  obtain ⟨W2, hW2⟩ : ∃ W_, W_ = wz_.alloc (.cells (ten c 0 0 E0 E0 E0 E0 0 0 0) 24) := ⟨_, rfl⟩
  rw [← hW2, ← hq]
  have O := Aside0.mk (show Box w W2 q (ten c 0 0 E0 E0 E0 E0 0 0 0) by rw [hW2, hq]; exact Box.fresh D.out _)
  have NA := Aside0.mk (show g ≠ q by have h1_ := blk_lt A.out.blk; omega)
  have NB := Aside0.mk (show p ≠ q by have h1_ := blk_lt B.out.blk; omega)
  have A' := Aside0.mk (show Box w W2 g (ten 0 0 0 E0 E0 E0 E0 0 0 0) by rw [hW2]; exact A.out.alloc _)
  have B' := Aside0.mk (show Box w W2 p (ten 0 0 0 E0 E0 E0 E0 0 0 0) by rw [hW2]; exact B.out.alloc _)
  have D' := Aside0.mk (show Below w.heap.size w W2 by rw [hW2]; exact below_alloc D.out _)
  clear hW2 hq A B D
  have A := A'
  clear A'
  have B := B'
  clear B'
  have D := D'
  clear D'
  go_upto_if 54 with (first | ((with_reducible refine gate_dst (N := 47) rfl ?_); (with_reducible refine gate_callee (f := 39) rfl ?_); refine goesL_ (some 47) rfl rfl Tryd.func39 (by kernel_rfl) rfl #[.string (s.extract 1 s.size)] rfl (by (try simp only [List.map_toArray, List.map_cons, List.map_nil]); first | done | rfl) ?_; refine (transeptref01_Get.calls k0 (s.extract 1 s.size) t1 (p1 : Int) 0 _ HG1.out).mono ?_; rintro e wz_ ⟨rfl, hd⟩; refine ⟨_, rfl, ?_⟩; have hb := hd.below; clear hd; have n0_ := Aside0.mk (below_step D.out hb); have n1_ := Aside0.mk (A.out.then_ hb); have n2_ := Aside0.mk (B.out.then_ hb); have n3_ := Aside0.mk (O.out.then_ hb); clear D; clear A; clear B; clear O; have D := n0_; have A := n1_; have B := n2_; have O := n3_; clear n0_ n1_ n2_ n3_; clear hb))
  obtain ⟨c0, c1, c2, c3, c4, c5, c6, c7, c8, c9⟩ := O.out.read
  obtain ⟨o0, o1, o2, o3, o4, o5, o6, o7, o8, o9⟩ := O.out.free
  go_upto_region 13 with (fail)
  clear c0 c1 c2 c3 c4 c5 c6 c7 c8 c9 o0 o1 o2 o3 o4 o5 o6 o7 o8 o9
  obtain ⟨W3, hW3⟩ : ∃ W_, W_ = wz_.setCell ⟨q, 1, none⟩ (.int .u64 t1) := ⟨_, rfl⟩
  rw [← hW3]
  have O' := Aside0.mk (show Box w W3 q (ten c t1 0 E0 E0 E0 E0 0 0 0) by rw [hW3]; exact ⟨O.out.base, blk_put O.out.blk 1 _ rfl⟩)
  have A' := Aside0.mk (show Box w W3 g (ten 0 0 0 E0 E0 E0 E0 0 0 0) by rw [hW3]; exact A.out.far NA.out _ _)
  have B' := Aside0.mk (show Box w W3 p (ten 0 0 0 E0 E0 E0 E0 0 0 0) by rw [hW3]; exact B.out.far NB.out _ _)
  have D' := Aside0.mk (show Below w.heap.size w W3 by rw [hW3]; exact D.out.setCell O.out.base _)
  clear hW3 O A B D
  have O := O'
  clear O'
  have A := A'
  clear A'
  have B := B'
  clear B'
  have D := D'
  clear D'
  have HAL := Aside0.mk hal
  have HC := Aside0.mk hc
  have HX := Aside0.mk hx1
  clear hal hc hx1
  obtain ⟨c0, c1, c2, c3, c4, c5, c6, c7, c8, c9⟩ := O.out.read
  go_cut [12] (fun v12 wc => v12 = .bool al ∧ wc = W3)
  case first =>
    have hal := HAL.out
    by_cases h1 : c = 1
    · subst h1
      obtain rfl : al = true := by simpa using hal.symm
      clear hal
      go_wp2
      go_meet
      case rel => exact ⟨rfl, rfl⟩
    · have h1' : (c == 1) = false := by rw [beq_eq_false_iff_ne]; exact h1
      by_cases h2 : c = 2
      · subst h2
        obtain rfl : al = true := by simpa using hal.symm
        clear hal h1
        go_wp2
        go_meet
        case rel => exact ⟨rfl, rfl⟩
      · have h2' : (c == 2) = false := by rw [beq_eq_false_iff_ne]; exact h2
        obtain rfl : al = false := by rw [decide_eq_false h1, decide_eq_false h2] at hal; exact hal.symm
        clear hal h1 h2
        go_wp2
        go_meet
        case rel => exact ⟨rfl, rfl⟩
  case rest =>
    obtain ⟨rfl, rfl⟩ := hcut
    obtain ⟨W4, rfl⟩ : ∃ W_ : World, W_ = wc := ⟨_, rfl⟩
    clear c0 c1 c2 c3 c4 c5 c6 c7 c8 c9
    have HG2 := Aside0.mk hg2
    have HPASS := Aside0.mk hpass
    have HP2 := Aside0.mk hP2
    clear hg2 hpass hP2
    go_upto_region 14 with (fail)
    go_cut [79] (fun v79 wc => v79 = .bool false ∧ wc = W4)
    case first =>
      have hx1 := HX.out
      by_cases hlt : P < s.size
      · have hx := HPASS.out hlt
        have hx' : (!al == (x1 == 0)) = false := by revert hx; cases al <;> cases (x1 == 0) <;> simp
        go_wp2
        go_meet
        case rel => exact ⟨rfl, rfl⟩
      · go_wp2
        go_meet
        case rel => exact ⟨rfl, rfl⟩
    case rest =>
      obtain ⟨rfl, rfl⟩ := hcut
      have hP2 := HP2.out
      go_upto_if 94 with (first | ((with_reducible refine gate_dst (N := 86) rfl ?_); (with_reducible refine gate_callee (f := 39) rfl ?_); refine goesL_ (some 86) rfl rfl Tryd.func39 (by kernel_rfl) rfl #[.string (s.extract P s.size)] rfl (by (try simp only [List.map_toArray, List.map_cons, List.map_nil]); first | done | rfl) ?_; refine (transeptref01_Get.calls k0 (s.extract P s.size) id (k2 : Int) 0 _ HG2.out).mono ?_; rintro e wz_ ⟨rfl, hd⟩; refine ⟨_, rfl, ?_⟩; have hb := hd.below; clear hd; have n0_ := Aside0.mk (below_step D.out hb); have n1_ := Aside0.mk (A.out.then_ hb); have n2_ := Aside0.mk (B.out.then_ hb); have n3_ := Aside0.mk (O.out.then_ hb); clear D; clear A; clear B; clear O; have D := n0_; have A := n1_; have B := n2_; have O := n3_; clear n0_ n1_ n2_ n3_; clear hb))
      obtain ⟨c0, c1, c2, c3, c4, c5, c6, c7, c8, c9⟩ := O.out.read
      obtain ⟨o0, o1, o2, o3, o4, o5, o6, o7, o8, o9⟩ := O.out.free
      go_upto_region 21 with (fail)
      clear c0 c1 c2 c3 c4 c5 c6 c7 c8 c9 o0 o1 o2 o3 o4 o5 o6 o7 o8 o9
      obtain ⟨W5, hW5⟩ : ∃ W_, W_ = wz_.setCell ⟨q, 2, none⟩ (.int .u64 id) := ⟨_, rfl⟩
      rw [← hW5]
      have O' := Aside0.mk (show Box w W5 q (ten c t1 id E0 E0 E0 E0 0 0 0) by rw [hW5]; exact ⟨O.out.base, blk_put O.out.blk 2 _ rfl⟩)
      have A' := Aside0.mk (show Box w W5 g (ten 0 0 0 E0 E0 E0 E0 0 0 0) by rw [hW5]; exact A.out.far NA.out _ _)
      have B' := Aside0.mk (show Box w W5 p (ten 0 0 0 E0 E0 E0 E0 0 0 0) by rw [hW5]; exact B.out.far NB.out _ _)
      have D' := Aside0.mk (show Below w.heap.size w W5 by rw [hW5]; exact D.out.setCell O.out.base _)
      clear hW5 O A B D
      have O := O'
      clear O'
      have A := A'
      clear A'
      have B := B'
      clear B'
      have D := D'
      clear D'
      have HSP := Aside0.mk hsp
      clear hsp
      go_upto_region 22 with (first | ((with_reducible refine gate_dst (N := 102) rfl ?_); (with_reducible refine gate_callee (f := 28) rfl ?_); refine goesL_ (some 102) rfl rfl Tryd.func28 (by kernel_rfl) rfl #[.string sh] rfl (by (try simp only [List.map_toArray, List.map_cons, List.map_nil]); first | done | rfl) ?_; refine (transeptref05_split.calls k0 sh (T : Int) Lt _ HSP.out).mono ?_; rintro e wz_ ⟨rfl, hd⟩; refine ⟨_, rfl, ?_⟩; have hb := hd.below; clear hd; have n0_ := Aside0.mk (below_step D.out hb); have n1_ := Aside0.mk (A.out.then_ hb); have n2_ := Aside0.mk (B.out.then_ hb); have n3_ := Aside0.mk (O.out.then_ hb); clear D; clear A; clear B; clear O; have D := n0_; have A := n1_; have B := n2_; have O := n3_; clear n0_ n1_ n2_ n3_; clear hb))
      go_upto_region 23 with (fail)
      obtain ⟨r, hr⟩ : ∃ r, r = wz_.heap.size := ⟨_, rfl⟩
      obtain ⟨W6, hW6⟩ : ∃ W_, W_ = wz_.alloc (.cells #[.string ⟨#[]⟩, .string ⟨#[]⟩, .string ⟨#[]⟩, .string ⟨#[]⟩] 9) := ⟨_, rfl⟩
      rw [← hW6, ← hr]
      have R := Aside0.mk (show TBox w W6 r ⟨#[]⟩ ⟨#[]⟩ ⟨#[]⟩ ⟨#[]⟩ by rw [hW6, hr]; exact ⟨D.out.size, blk_new _ _⟩)
      have NRA := Aside0.mk (show g ≠ r by have h1_ := blk_lt A.out.blk; omega)
      have NRB := Aside0.mk (show p ≠ r by have h1_ := blk_lt B.out.blk; omega)
      have NRO := Aside0.mk (show q ≠ r by have h1_ := blk_lt O.out.blk; omega)
      have A' := Aside0.mk (show Box w W6 g (ten 0 0 0 E0 E0 E0 E0 0 0 0) by rw [hW6]; exact A.out.alloc _)
      have B' := Aside0.mk (show Box w W6 p (ten 0 0 0 E0 E0 E0 E0 0 0 0) by rw [hW6]; exact B.out.alloc _)
      have O' := Aside0.mk (show Box w W6 q (ten c t1 id E0 E0 E0 E0 0 0 0) by rw [hW6]; exact O.out.alloc _)
      have D' := Aside0.mk (show Below w.heap.size w W6 by rw [hW6]; exact below_alloc D.out _)
      clear hW6 hr A B O D
      have A := A'
      clear A'
      have B := B'
      clear B'
      have O := O'
      clear O'
      have D := D'
      clear D'
      obtain rfl := hQ0
      have HTX := Aside0.mk hTX
      have HXT := Aside0.mk hXT
      clear hTX hXT
      go_wp2_with (fail)
      go_loopg [11, 17] T (fun m v11 v17 w' => ∃ i : Nat, v11 = .int .i64 (Q i : Int) ∧ v17 = .int .i64 (i : Int) ∧ i + m = T ∧ Aside0 (∀ j, j < i → E j = 0) ∧ Aside0 (Below w.heap.size w w') ∧ Aside0 (Box w w' g (ten 0 0 0 E0 E0 E0 E0 0 0 0)) ∧ Aside0 (Box w w' p (ten 0 0 0 E0 E0 E0 E0 0 0 0)) ∧ Aside0 (Box w w' q (ten c t1 id E0 E0 E0 E0 0 0 0)) ∧ Aside0 (TBox w w' r (tx V i 0) (tx V i 1) (tx V i 2) (tx V i 3)))
      case atStart => exact ⟨0, rfl, rfl, by omega, ⟨fun j h => absurd h (by omega)⟩, D, A, B, O, R⟩
      case round =>
        clear D A B O R
        obtain ⟨i, rfl, rfl, hm, HE, D, A, B, O, R⟩ := hrel
        by_cases hi : i < T
        · have HG := Aside0.mk (HTX.out i hi).1
          have hq2 : (Q i : Int) + (X i : Int) = (Q (i + 1) : Int) := (HTX.out i hi).2.1
          have hq3 : Q i ≤ s.size := (HTX.out i hi).2.2.1
          have hq4 : Q (i + 1) ≤ s.size := (HTX.out i hi).2.2.2
          have hi4 : (i : Int) < 4 := by omega
          have hiT : (i : Int) < (T : Int) := by omega
          go_upto_if 123 with (first | ((with_reducible refine gate_dst (N := 115) rfl ?_); (with_reducible refine gate_callee (f := 40) rfl ?_); refine goesL_ (some 115) rfl rfl Tryd.func40 (by kernel_rfl) rfl #[.string (s.extract (Q i) s.size), .int .i64 4096] rfl (by (try simp only [List.map_toArray, List.map_cons, List.map_nil]); first | done | rfl) ?_; refine (transeptref01_Text.calls k0 (s.extract (Q i) s.size) 4096 (V i) (X i : Int) (E i) _ HG.out).mono ?_; rintro e wz_ ⟨rfl, hd⟩; refine ⟨_, rfl, ?_⟩; have hb := hd.below; clear hd; have n0_ := Aside0.mk (below_step D.out hb); have n1_ := Aside0.mk (A.out.then_ hb); have n2_ := Aside0.mk (B.out.then_ hb); have n3_ := Aside0.mk (O.out.then_ hb); have n4_ := Aside0.mk (R.out.then_ hb); clear D; clear A; clear B; clear O; clear R; have D := n0_; have A := n1_; have B := n2_; have O := n3_; have R := n4_; clear n0_ n1_ n2_ n3_ n4_; clear hb))
          by_cases he : E i = 0
          · have he2 : (E i != 0) = false := by simp [he]
            have f_ : wz_.frozen? ⟨r, i, none⟩ = false := blk_frozen R.out.blk i
            have x_ : wz_.cell? ⟨r, i, none⟩ = some (.string (tx V i i)) := R.out.at_ (by omega)
            go_wp2
            go_roundg (gk - 1)
            case measure => omega
            case rel => exact ⟨i + 1, rfl, by go_num, by omega, ⟨fun j h => by by_cases e : j = i; (subst e; exact he); exact HE.out j (by omega)⟩, ⟨D.out.setCell R.out.base _⟩, ⟨A.out.far NRA.out _ _⟩, ⟨B.out.far NRB.out _ _⟩, ⟨O.out.far NRO.out _ _⟩, ⟨R.out.put (by omega)⟩⟩
          · have he2 : (E i != 0) = true := by simp [he]
            have HEI := Aside0.mk he
            clear he
            go_upto_region 29 with (fail)
            obtain ⟨BB, hBB⟩ : ∃ BB : Act → World → Prop, BB = fun a w' => bodyPost Tryd.prog Tryd.f18 (fun e w' => e = .returned (.tuple #[.agg RES, .int .i64 AT, .int .i64 ER]) ∧ Below w.heap.size w w') Exit.ret a w' := ⟨_, rfl⟩
            have HBB := Aside0.mk hBB
            clear hBB
            refine exit_region BB (by assumption) (fun a w' h => by rw [HBB.out] at h; (repeat (first | (with_reducible refine thenRet ?_) | (with_reducible refine blockRet ?_))); exact h) ?_
            go_wp2_with (first | ((with_reducible refine gate_dst (N := 124) rfl ?_); refine wpList_load_row ?hgd_124 24 (.tmp 5) ?ho_124 p ?hx_124 ?t_124 ?cs_124 ?fr_124 ?d_124 ?hg_124 ?hu_124 ?hd_124 ?hi_124 ?_; (case hgd_124 => rfl); (case ho_124 => rfl); (case hx_124 => rfl); (case hg_124 => exact B.out.blk); (case hu_124 => exact Tryd.underlying24); (case hd_124 => rfl); (case hi_124 => exact size24)) | ((with_reducible refine gate_store (p := 2) rfl ?_); refine wpList_store_row ?hgd_s124 24 (.tmp 2) (.tmp 124) ?ho_s124 g (ten 0 0 0 E0 E0 E0 E0 0 0 0) ?hx_s124 ?hy_s124 ?t_s124 ?old_s124 ?hg_s124 ?hi_s124 ?hold_s124 ?h1_s124 ?_; (case hgd_s124 => rfl); (case ho_s124 => rfl); (case hx_s124 => rfl); (case hy_s124 => rfl); (case hg_s124 => exact A.out.blk); (case hi_s124 => exact size24); (case hold_s124 => rfl); (case h1_s124 => exact ten_one _ _ _ _ _ _ _ _ _ _); have n0_ := Aside0.mk (setRow_below D.out A.out.base (ten 0 0 0 E0 E0 E0 E0 0 0 0)); have n1_ := Aside0.mk (Box.row A.out (ten 0 0 0 E0 E0 E0 E0 0 0 0)); have n2_ := Aside0.mk (Box.row_far B.out NE.out.symm (ten 0 0 0 E0 E0 E0 E0 0 0 0)); clear D; clear A; clear B; have D := n0_; have A := n1_; have B := n2_; clear n0_ n1_ n2_))
            rw [HBB.out]
            show bodyPost Tryd.prog Tryd.f18 _ Exit.ret _ _
            refine bodyPost_ret (results_cell3 (p := 2) (u := 3) (q := 4) rfl _ _ g 24 _ (0, 0) _ rfl A.out.blk Tryd.underlying24 rfl size24) rfl ?_
            obtain ⟨z1, z2, z3⟩ := HXT.out i hi HEI.out HE.out
            exact ⟨by rw [z1, z2, z3]; rfl, D.out⟩
        · obtain rfl : i = T := by omega
          have x_ : wr.cell? ⟨r, 0, none⟩ = some (.string (tx V i 0)) := blk_cell R.out.blk 0
          obtain ⟨c0, c1, c2, c3, c4, c5, c6, c7, c8, c9⟩ := O.out.read
          obtain ⟨o0, o1, o2, o3, o4, o5, o6, o7, o8, o9⟩ := O.out.free
          go_upto_region 32 with (fail)
          clear c0 c1 c2 c3 c4 c5 c6 c7 c8 c9 o0 o1 o2 o3 o4 o5 o6 o7 o8 o9
          clear x_
          obtain ⟨W7, hW7⟩ : ∃ W_, W_ = wr.setCell ⟨q, 3, none⟩ (.string (tx V i 0)) := ⟨_, rfl⟩
          rw [← hW7]
          have O' := Aside0.mk (show Box w W7 q (ten c t1 id (tx V i 0) E0 E0 E0 0 0 0) by rw [hW7]; exact ⟨O.out.base, blk_put O.out.blk 3 _ rfl⟩)
          have A' := Aside0.mk (show Box w W7 g (ten 0 0 0 E0 E0 E0 E0 0 0 0) by rw [hW7]; exact A.out.far NA.out _ _)
          have B' := Aside0.mk (show Box w W7 p (ten 0 0 0 E0 E0 E0 E0 0 0 0) by rw [hW7]; exact B.out.far NB.out _ _)
          have D' := Aside0.mk (show Below w.heap.size w W7 by rw [hW7]; exact D.out.setCell O.out.base _)
          have R' := Aside0.mk (show TBox w W7 r (tx V i 0) (tx V i 1) (tx V i 2) (tx V i 3) by rw [hW7]; exact R.out.far NRO.out.symm _ _)
          clear hW7 O A B D R
          have O := O'
          clear O'
          have A := A'
          clear A'
          have B := B'
          clear B'
          have D := D'
          clear D'
          have R := R'
          clear R'
          have x_ : W7.cell? ⟨r, 1, none⟩ = some (.string (tx V i 1)) := blk_cell R.out.blk 1
          obtain ⟨c0, c1, c2, c3, c4, c5, c6, c7, c8, c9⟩ := O.out.read
          obtain ⟨o0, o1, o2, o3, o4, o5, o6, o7, o8, o9⟩ := O.out.free
          go_upto_region 33 with (fail)
          clear c0 c1 c2 c3 c4 c5 c6 c7 c8 c9 o0 o1 o2 o3 o4 o5 o6 o7 o8 o9
          clear x_
          obtain ⟨W8, hW8⟩ : ∃ W_, W_ = W7.setCell ⟨q, 4, none⟩ (.string (tx V i 1)) := ⟨_, rfl⟩
          rw [← hW8]
          have O' := Aside0.mk (show Box w W8 q (ten c t1 id (tx V i 0) (tx V i 1) E0 E0 0 0 0) by rw [hW8]; exact ⟨O.out.base, blk_put O.out.blk 4 _ rfl⟩)
          have A' := Aside0.mk (show Box w W8 g (ten 0 0 0 E0 E0 E0 E0 0 0 0) by rw [hW8]; exact A.out.far NA.out _ _)
          have B' := Aside0.mk (show Box w W8 p (ten 0 0 0 E0 E0 E0 E0 0 0 0) by rw [hW8]; exact B.out.far NB.out _ _)
          have D' := Aside0.mk (show Below w.heap.size w W8 by rw [hW8]; exact D.out.setCell O.out.base _)
          have R' := Aside0.mk (show TBox w W8 r (tx V i 0) (tx V i 1) (tx V i 2) (tx V i 3) by rw [hW8]; exact R.out.far NRO.out.symm _ _)
          clear hW8 O A B D R
          have O := O'
          clear O'
          have A := A'
          clear A'
          have B := B'
          clear B'
          have D := D'
          clear D'
          have R := R'
          clear R'
          have x_ : W8.cell? ⟨r, 2, none⟩ = some (.string (tx V i 2)) := blk_cell R.out.blk 2
          obtain ⟨c0, c1, c2, c3, c4, c5, c6, c7, c8, c9⟩ := O.out.read
          obtain ⟨o0, o1, o2, o3, o4, o5, o6, o7, o8, o9⟩ := O.out.free
          go_upto_region 34 with (fail)
          clear c0 c1 c2 c3 c4 c5 c6 c7 c8 c9 o0 o1 o2 o3 o4 o5 o6 o7 o8 o9
          clear x_
          obtain ⟨W9, hW9⟩ : ∃ W_, W_ = W8.setCell ⟨q, 5, none⟩ (.string (tx V i 2)) := ⟨_, rfl⟩
          rw [← hW9]
          have O' := Aside0.mk (show Box w W9 q (ten c t1 id (tx V i 0) (tx V i 1) (tx V i 2) E0 0 0 0) by rw [hW9]; exact ⟨O.out.base, blk_put O.out.blk 5 _ rfl⟩)
          have A' := Aside0.mk (show Box w W9 g (ten 0 0 0 E0 E0 E0 E0 0 0 0) by rw [hW9]; exact A.out.far NA.out _ _)
          have B' := Aside0.mk (show Box w W9 p (ten 0 0 0 E0 E0 E0 E0 0 0 0) by rw [hW9]; exact B.out.far NB.out _ _)
          have D' := Aside0.mk (show Below w.heap.size w W9 by rw [hW9]; exact D.out.setCell O.out.base _)
          have R' := Aside0.mk (show TBox w W9 r (tx V i 0) (tx V i 1) (tx V i 2) (tx V i 3) by rw [hW9]; exact R.out.far NRO.out.symm _ _)
          clear hW9 O A B D R
          have O := O'
          clear O'
          have A := A'
          clear A'
          have B := B'
          clear B'
          have D := D'
          clear D'
          have R := R'
          clear R'
          have x_ : W9.cell? ⟨r, 3, none⟩ = some (.string (tx V i 3)) := blk_cell R.out.blk 3
          obtain ⟨c0, c1, c2, c3, c4, c5, c6, c7, c8, c9⟩ := O.out.read
          obtain ⟨o0, o1, o2, o3, o4, o5, o6, o7, o8, o9⟩ := O.out.free
          go_upto_region 35 with (fail)
          clear c0 c1 c2 c3 c4 c5 c6 c7 c8 c9 o0 o1 o2 o3 o4 o5 o6 o7 o8 o9
          clear x_
          obtain ⟨W10, hW10⟩ : ∃ W_, W_ = W9.setCell ⟨q, 6, none⟩ (.string (tx V i 3)) := ⟨_, rfl⟩
          rw [← hW10]
          have O' := Aside0.mk (show Box w W10 q (ten c t1 id (tx V i 0) (tx V i 1) (tx V i 2) (tx V i 3) 0 0 0) by rw [hW10]; exact ⟨O.out.base, blk_put O.out.blk 6 _ rfl⟩)
          have A' := Aside0.mk (show Box w W10 g (ten 0 0 0 E0 E0 E0 E0 0 0 0) by rw [hW10]; exact A.out.far NA.out _ _)
          have B' := Aside0.mk (show Box w W10 p (ten 0 0 0 E0 E0 E0 E0 0 0 0) by rw [hW10]; exact B.out.far NB.out _ _)
          have D' := Aside0.mk (show Below w.heap.size w W10 by rw [hW10]; exact D.out.setCell O.out.base _)
          have R' := Aside0.mk (show TBox w W10 r (tx V i 0) (tx V i 1) (tx V i 2) (tx V i 3) by rw [hW10]; exact R.out.far NRO.out.symm _ _)
          clear hW10 O A B D R
          have O := O'
          clear O'
          have A := A'
          clear A'
          have B := B'
          clear B'
          have D := D'
          clear D'
          have R := R'
          clear R'
          obtain ⟨u, hu⟩ : ∃ u, u = W10.heap.size := ⟨_, rfl⟩
          go_upto_region 36 with (fail)
          obtain ⟨W11, hW11⟩ : ∃ W_, W_ = W10.alloc (.cells #[.int .i64 0, .int .i64 0, .int .i64 0] 3) := ⟨_, rfl⟩
          rw [← hW11, ← hu]
          have U := Aside0.mk (show NBox w W11 u 0 0 0 by rw [hW11, hu]; exact ⟨D.out.size, blk_new _ _⟩)
          have NUA := Aside0.mk (show g ≠ u by have h1_ := blk_lt A.out.blk; omega)
          have NUB := Aside0.mk (show p ≠ u by have h1_ := blk_lt B.out.blk; omega)
          have NUO := Aside0.mk (show q ≠ u by have h1_ := blk_lt O.out.blk; omega)
          have NUR := Aside0.mk (show r ≠ u by have h1_ := blk_lt R.out.blk; omega)
          have A' := Aside0.mk (show Box w W11 g (ten 0 0 0 E0 E0 E0 E0 0 0 0) by rw [hW11]; exact A.out.alloc _)
          have B' := Aside0.mk (show Box w W11 p (ten 0 0 0 E0 E0 E0 E0 0 0 0) by rw [hW11]; exact B.out.alloc _)
          have O' := Aside0.mk (show Box w W11 q (ten c t1 id (tx V i 0) (tx V i 1) (tx V i 2) (tx V i 3) 0 0 0) by rw [hW11]; exact O.out.alloc _)
          have D' := Aside0.mk (show Below w.heap.size w W11 by rw [hW11]; exact below_alloc D.out _)
          clear hW11 hu A B O D R
          have A := A'
          clear A'
          have B := B'
          clear B'
          have O := O'
          clear O'
          have D := D'
          clear D'
          have HNM := Aside0.mk hNM
          have HXN := Aside0.mk hXN
          have HXE := Aside0.mk hXE
          clear hNM hXN hXE
          have HXM := Aside0.mk hXM
          have HL1 := Aside0.mk hLs
          have HPN1 := Aside0.mk hPN1
          clear hXM hPN1
          have e0_ : Q i = PN 0 := hPN0.symm
          rw [e0_]
          clear e0_ hPN0
          go_wp2_with (fail)
          go_loopg [11, 22] Lt.size (fun m v11 v22 w' => ∃ j : Nat, v11 = .int .i64 (PN j : Int) ∧ v22 = .int .i64 (j : Int) ∧ j + m = Lt.size ∧ Aside0 (0 < j → FH = 0 ∧ FL = 0) ∧ Aside0 (Below w.heap.size w w') ∧ Aside0 (Box w w' g (ten 0 0 0 E0 E0 E0 E0 0 0 0)) ∧ Aside0 (Box w w' p (ten 0 0 0 E0 E0 E0 E0 0 0 0)) ∧ Aside0 (Box w w' q (ten c t1 id (tx V i 0) (tx V i 1) (tx V i 2) (tx V i 3) 0 0 0)) ∧ Aside0 (NBox w w' u (nm Y j 0) (nm Y j 1) (nm Y j 2)))
          case atStart => exact ⟨0, rfl, rfl, by omega, ⟨fun h => absurd h (by omega)⟩, D, A, B, O, U⟩
          case round =>
            clear D A B O U
            obtain ⟨j, rfl, rfl, hmj, HF, D, A, B, O, U⟩ := hrel
            by_cases hj : j < Lt.size
            · obtain rfl : j = 0 := by omega
              have HG := Aside0.mk HNM.out.1
              have hln := HNM.out.2.1
              have hjT : ((0 : Nat) : Int) < (Lt.size : Int) := by omega
              have hj1 : (0 : Int) < (Lt.size : Int) := by omega
              go_upto_if 169 with (first | ((with_reducible refine gate_dst (N := 157) rfl ?_); (with_reducible refine gate_callee (f := 29) rfl ?_); refine goesL_ (some 157) rfl rfl Tryd.func29 (by kernel_rfl) rfl #[.int .u8 115] rfl (by (try simp only [List.map_toArray, List.map_cons, List.map_nil]); first | done | rfl) ?_; refine (transeptref05_most.calls 115 999 _ rfl).mono ?_; rintro e wz_ ⟨rfl, hd⟩; refine ⟨_, rfl, ?_⟩; have hb := hd.below; clear hd; have n0_ := Aside0.mk (below_step D.out hb); have n1_ := Aside0.mk (A.out.then_ hb); have n2_ := Aside0.mk (B.out.then_ hb); have n3_ := Aside0.mk (O.out.then_ hb); have n4_ := Aside0.mk (U.out.then_ hb); clear D; clear A; clear B; clear O; clear U; have D := n0_; have A := n1_; have B := n2_; have O := n3_; have U := n4_; clear n0_ n1_ n2_ n3_ n4_; clear hb) | ((with_reducible refine gate_dst (N := 165) rfl ?_); (with_reducible refine gate_callee (f := 41) rfl ?_); refine goesL_ (some 165) rfl rfl Tryd.func41 (by kernel_rfl) rfl #[.string s, .int .i64 (PN 0 : Int), .int .i64 3] rfl (by (try simp only [List.map_toArray, List.map_cons, List.map_nil]); first | done | rfl) ?_; refine (transeptref05_bounded.calls s (PN 0 : Int) 3 XH FH _ HG.out).mono ?_; rintro e wz_ ⟨rfl, hd⟩; refine ⟨_, rfl, ?_⟩; have hb := hd.below; clear hd; have n0_ := Aside0.mk (below_step D.out hb); have n1_ := Aside0.mk (A.out.then_ hb); have n2_ := Aside0.mk (B.out.then_ hb); have n3_ := Aside0.mk (O.out.then_ hb); have n4_ := Aside0.mk (U.out.then_ hb); clear D; clear A; clear B; clear O; clear U; have D := n0_; have A := n1_; have B := n2_; have O := n3_; have U := n4_; clear n0_ n1_ n2_ n3_ n4_; clear hb))
              by_cases he : FH = 0
              · obtain ⟨h1_, h2_, h3_, h4_, h5_, h6_, h7_⟩ := HNM.out.2.2 he
                have HLO := Aside0.mk h1_
                clear h1_
                have he1 : (FH != 0) = false := by simp [he]
                have hw1 : wrap64 (XH * 256) = XH * 256 := w64 _ (by omega) (by omega)
                have hw2 : wrap64 (999 - XH * 256) = 999 - XH * 256 := w64 _ (by omega) (by omega)
                have hw3 : wrap64 (XH * 256 + XL) = Y 0 := by rw [← h7_]; exact w64 _ (by omega) (by omega)
                have HB_ := Aside0.mk (And.intro h2_ h3_)
                clear h2_ h3_ h4_ h5_ h7_
                go_upto_if 188 with (first | ((with_reducible refine gate_dst (N := 184) rfl ?_); (with_reducible refine gate_callee (f := 41) rfl ?_); refine goesL_ (some 184) rfl rfl Tryd.func41 (by kernel_rfl) rfl #[.string s, .int .i64 (Q1 : Int), .int .i64 MM] rfl (by (try simp only [List.map_toArray, List.map_cons, List.map_nil]); first | done | rfl) ?_; refine (transeptref05_bounded.calls s (Q1 : Int) MM XL FL _ HLO.out).mono ?_; rintro e wz_ ⟨rfl, hd⟩; refine ⟨_, rfl, ?_⟩; have hb := hd.below; clear hd; have n0_ := Aside0.mk (below_step D.out hb); have n1_ := Aside0.mk (A.out.then_ hb); have n2_ := Aside0.mk (B.out.then_ hb); have n3_ := Aside0.mk (O.out.then_ hb); have n4_ := Aside0.mk (U.out.then_ hb); clear D; clear A; clear B; clear O; clear U; have D := n0_; have A := n1_; have B := n2_; have O := n3_; have U := n4_; clear n0_ n1_ n2_ n3_ n4_; clear hb))
                by_cases he3 : FL = 0
                · have he2 : (FL != 0) = false := by simp [he3]
                  have hp1_ := HPN1.out
                  have f_ : wz_.frozen? ⟨u, 0, none⟩ = false := blk_frozen U.out.blk 0
                  have x_ : wz_.cell? ⟨u, 0, none⟩ = some (.int .i64 (nm Y 0 0)) := U.out.at_ (by omega)
                  go_wp2
                  go_roundg (gk - 1)
                  case measure => omega
                  case rel => exact ⟨1, rfl, by go_num, by omega, ⟨fun h => ⟨he, he3⟩⟩, ⟨D.out.setCell U.out.base _⟩, ⟨A.out.far NUA.out _ _⟩, ⟨B.out.far NUB.out _ _⟩, ⟨O.out.far NUO.out _ _⟩, ⟨U.out.put (by omega)⟩⟩
                · have he2 : (FL != 0) = true := by simp [he3]
                  have HEI := Aside0.mk (And.intro he he3)
                  clear he he3
                  go_upto_region 50 with (fail)
                  obtain ⟨BB, hBB⟩ : ∃ BB : Act → World → Prop, BB = fun a w' => bodyPost Tryd.prog Tryd.f18 (fun e w' => e = .returned (.tuple #[.agg RES, .int .i64 AT, .int .i64 ER]) ∧ Below w.heap.size w w') Exit.ret a w' := ⟨_, rfl⟩
                  have HBB := Aside0.mk hBB
                  clear hBB
                  refine exit_region BB (by assumption) (fun a w' h => by rw [HBB.out] at h; (repeat (first | (with_reducible refine thenRet ?_) | (with_reducible refine blockRet ?_))); exact h) ?_
                  go_wp2_with (first | ((with_reducible refine gate_dst (N := 189) rfl ?_); refine wpList_load_row ?hgd_189 24 (.tmp 5) ?ho_189 p ?hx_189 ?t_189 ?cs_189 ?fr_189 ?d_189 ?hg_189 ?hu_189 ?hd_189 ?hi_189 ?_; (case hgd_189 => rfl); (case ho_189 => rfl); (case hx_189 => rfl); (case hg_189 => exact B.out.blk); (case hu_189 => exact Tryd.underlying24); (case hd_189 => rfl); (case hi_189 => exact size24)) | ((with_reducible refine gate_store (p := 2) rfl ?_); refine wpList_store_row ?hgd_s189 24 (.tmp 2) (.tmp 189) ?ho_s189 g (ten 0 0 0 E0 E0 E0 E0 0 0 0) ?hx_s189 ?hy_s189 ?t_s189 ?old_s189 ?hg_s189 ?hi_s189 ?hold_s189 ?h1_s189 ?_; (case hgd_s189 => rfl); (case ho_s189 => rfl); (case hx_s189 => rfl); (case hy_s189 => rfl); (case hg_s189 => exact A.out.blk); (case hi_s189 => exact size24); (case hold_s189 => rfl); (case h1_s189 => exact ten_one _ _ _ _ _ _ _ _ _ _); have n0_ := Aside0.mk (setRow_below D.out A.out.base (ten 0 0 0 E0 E0 E0 E0 0 0 0)); have n1_ := Aside0.mk (Box.row A.out (ten 0 0 0 E0 E0 E0 E0 0 0 0)); have n2_ := Aside0.mk (Box.row_far B.out NE.out.symm (ten 0 0 0 E0 E0 E0 E0 0 0 0)); clear D; clear A; clear B; have D := n0_; have A := n1_; have B := n2_; clear n0_ n1_ n2_))
                  rw [HBB.out]
                  show bodyPost Tryd.prog Tryd.f18 _ Exit.ret _ _
                  refine bodyPost_ret (results_cell3 (p := 2) (u := 3) (q := 4) rfl _ _ g 24 _ (0, 0) _ rfl A.out.blk Tryd.underlying24 rfl size24) rfl ?_
                  obtain ⟨z1, z2, z3⟩ := HXM.out HE.out HEI.out.1 HEI.out.2
                  exact ⟨by rw [z1, z2, z3]; rfl, D.out⟩
              · have he2 : (FH != 0) = true := by simp [he]
                have HEI := Aside0.mk he
                clear he
                go_upto_region 44 with (fail)
                obtain ⟨BB, hBB⟩ : ∃ BB : Act → World → Prop, BB = fun a w' => bodyPost Tryd.prog Tryd.f18 (fun e w' => e = .returned (.tuple #[.agg RES, .int .i64 AT, .int .i64 ER]) ∧ Below w.heap.size w w') Exit.ret a w' := ⟨_, rfl⟩
                have HBB := Aside0.mk hBB
                clear hBB
                refine exit_region BB (by assumption) (fun a w' h => by rw [HBB.out] at h; (repeat (first | (with_reducible refine thenRet ?_) | (with_reducible refine blockRet ?_))); exact h) ?_
                go_wp2_with (first | ((with_reducible refine gate_dst (N := 170) rfl ?_); refine wpList_load_row ?hgd_170 24 (.tmp 5) ?ho_170 p ?hx_170 ?t_170 ?cs_170 ?fr_170 ?d_170 ?hg_170 ?hu_170 ?hd_170 ?hi_170 ?_; (case hgd_170 => rfl); (case ho_170 => rfl); (case hx_170 => rfl); (case hg_170 => exact B.out.blk); (case hu_170 => exact Tryd.underlying24); (case hd_170 => rfl); (case hi_170 => exact size24)) | ((with_reducible refine gate_store (p := 2) rfl ?_); refine wpList_store_row ?hgd_s170 24 (.tmp 2) (.tmp 170) ?ho_s170 g (ten 0 0 0 E0 E0 E0 E0 0 0 0) ?hx_s170 ?hy_s170 ?t_s170 ?old_s170 ?hg_s170 ?hi_s170 ?hold_s170 ?h1_s170 ?_; (case hgd_s170 => rfl); (case ho_s170 => rfl); (case hx_s170 => rfl); (case hy_s170 => rfl); (case hg_s170 => exact A.out.blk); (case hi_s170 => exact size24); (case hold_s170 => rfl); (case h1_s170 => exact ten_one _ _ _ _ _ _ _ _ _ _); have n0_ := Aside0.mk (setRow_below D.out A.out.base (ten 0 0 0 E0 E0 E0 E0 0 0 0)); have n1_ := Aside0.mk (Box.row A.out (ten 0 0 0 E0 E0 E0 E0 0 0 0)); have n2_ := Aside0.mk (Box.row_far B.out NE.out.symm (ten 0 0 0 E0 E0 E0 E0 0 0 0)); clear D; clear A; clear B; have D := n0_; have A := n1_; have B := n2_; clear n0_ n1_ n2_))
                rw [HBB.out]
                show bodyPost Tryd.prog Tryd.f18 _ Exit.ret _ _
                refine bodyPost_ret (results_cell3 (p := 2) (u := 3) (q := 4) rfl _ _ g 24 _ (0, 0) _ rfl A.out.blk Tryd.underlying24 rfl size24) rfl ?_
                obtain ⟨z1, z2, z3⟩ := HXN.out HE.out HEI.out
                exact ⟨by rw [z1, z2, z3]; rfl, D.out⟩
            · have HJ := Aside0.mk (show j = Lt.size by omega)
              have x_ : wr.cell? ⟨u, 0, none⟩ = some (.int .i64 (nm Y j 0)) := blk_cell U.out.blk 0
              obtain ⟨c0, c1, c2, c3, c4, c5, c6, c7, c8, c9⟩ := O.out.read
              obtain ⟨o0, o1, o2, o3, o4, o5, o6, o7, o8, o9⟩ := O.out.free
              go_upto_region 54 with (fail)
              clear c0 c1 c2 c3 c4 c5 c6 c7 c8 c9 o0 o1 o2 o3 o4 o5 o6 o7 o8 o9
              clear x_
              obtain ⟨W12, hW12⟩ : ∃ W_, W_ = wr.setCell ⟨q, 7, none⟩ (.int .i64 (nm Y j 0)) := ⟨_, rfl⟩
              rw [← hW12]
              have O' := Aside0.mk (show Box w W12 q (ten c t1 id (tx V i 0) (tx V i 1) (tx V i 2) (tx V i 3) (nm Y j 0) 0 0) by rw [hW12]; exact ⟨O.out.base, blk_put O.out.blk 7 _ rfl⟩)
              have A' := Aside0.mk (show Box w W12 g (ten 0 0 0 E0 E0 E0 E0 0 0 0) by rw [hW12]; exact A.out.far NA.out _ _)
              have B' := Aside0.mk (show Box w W12 p (ten 0 0 0 E0 E0 E0 E0 0 0 0) by rw [hW12]; exact B.out.far NB.out _ _)
              have D' := Aside0.mk (show Below w.heap.size w W12 by rw [hW12]; exact D.out.setCell O.out.base _)
              have U' := Aside0.mk (show NBox w W12 u (nm Y j 0) (nm Y j 1) (nm Y j 2) by rw [hW12]; exact U.out.far NUO.out.symm _ _)
              clear hW12 O A B D U
              have O := O'
              clear O'
              have A := A'
              clear A'
              have B := B'
              clear B'
              have D := D'
              clear D'
              have U := U'
              clear U'
              have x_ : W12.cell? ⟨u, 1, none⟩ = some (.int .i64 (nm Y j 1)) := blk_cell U.out.blk 1
              obtain ⟨c0, c1, c2, c3, c4, c5, c6, c7, c8, c9⟩ := O.out.read
              obtain ⟨o0, o1, o2, o3, o4, o5, o6, o7, o8, o9⟩ := O.out.free
              go_upto_region 55 with (fail)
              clear c0 c1 c2 c3 c4 c5 c6 c7 c8 c9 o0 o1 o2 o3 o4 o5 o6 o7 o8 o9
              clear x_
              obtain ⟨W13, hW13⟩ : ∃ W_, W_ = W12.setCell ⟨q, 8, none⟩ (.int .i64 (nm Y j 1)) := ⟨_, rfl⟩
              rw [← hW13]
              have O' := Aside0.mk (show Box w W13 q (ten c t1 id (tx V i 0) (tx V i 1) (tx V i 2) (tx V i 3) (nm Y j 0) (nm Y j 1) 0) by rw [hW13]; exact ⟨O.out.base, blk_put O.out.blk 8 _ rfl⟩)
              have A' := Aside0.mk (show Box w W13 g (ten 0 0 0 E0 E0 E0 E0 0 0 0) by rw [hW13]; exact A.out.far NA.out _ _)
              have B' := Aside0.mk (show Box w W13 p (ten 0 0 0 E0 E0 E0 E0 0 0 0) by rw [hW13]; exact B.out.far NB.out _ _)
              have D' := Aside0.mk (show Below w.heap.size w W13 by rw [hW13]; exact D.out.setCell O.out.base _)
              have U' := Aside0.mk (show NBox w W13 u (nm Y j 0) (nm Y j 1) (nm Y j 2) by rw [hW13]; exact U.out.far NUO.out.symm _ _)
              clear hW13 O A B D U
              have O := O'
              clear O'
              have A := A'
              clear A'
              have B := B'
              clear B'
              have D := D'
              clear D'
              have U := U'
              clear U'
              have x_ : W13.cell? ⟨u, 2, none⟩ = some (.int .i64 (nm Y j 2)) := blk_cell U.out.blk 2
              obtain ⟨c0, c1, c2, c3, c4, c5, c6, c7, c8, c9⟩ := O.out.read
              obtain ⟨o0, o1, o2, o3, o4, o5, o6, o7, o8, o9⟩ := O.out.free
              go_upto_region 56 with (fail)
              clear c0 c1 c2 c3 c4 c5 c6 c7 c8 c9 o0 o1 o2 o3 o4 o5 o6 o7 o8 o9
              clear x_
              obtain ⟨W14, hW14⟩ : ∃ W_, W_ = W13.setCell ⟨q, 9, none⟩ (.int .i64 (nm Y j 2)) := ⟨_, rfl⟩
              rw [← hW14]
              have O' := Aside0.mk (show Box w W14 q (ten c t1 id (tx V i 0) (tx V i 1) (tx V i 2) (tx V i 3) (nm Y j 0) (nm Y j 1) (nm Y j 2)) by rw [hW14]; exact ⟨O.out.base, blk_put O.out.blk 9 _ rfl⟩)
              have A' := Aside0.mk (show Box w W14 g (ten 0 0 0 E0 E0 E0 E0 0 0 0) by rw [hW14]; exact A.out.far NA.out _ _)
              have B' := Aside0.mk (show Box w W14 p (ten 0 0 0 E0 E0 E0 E0 0 0 0) by rw [hW14]; exact B.out.far NB.out _ _)
              have D' := Aside0.mk (show Below w.heap.size w W14 by rw [hW14]; exact D.out.setCell O.out.base _)
              have U' := Aside0.mk (show NBox w W14 u (nm Y j 0) (nm Y j 1) (nm Y j 2) by rw [hW14]; exact U.out.far NUO.out.symm _ _)
              clear hW14 O A B D U
              have O := O'
              clear O'
              have A := A'
              clear A'
              have B := B'
              clear B'
              have D := D'
              clear D'
              have U := U'
              clear U'
              have HXF := Aside0.mk (HXE.out HE.out (HF.out (by have h_ := HJ.out; have h2_ := HL1.out; omega)))
              rw [← HJ.out] at HXF
              by_cases hend : PN j < s.size
              · have hend2 : ((PN j : Int) < (s.size : Int)) := by omega
                go_upto_region 57 with (fail)
                obtain ⟨BB, hBB⟩ : ∃ BB : Act → World → Prop, BB = fun a w' => bodyPost Tryd.prog Tryd.f18 (fun e w' => e = .returned (.tuple #[.agg RES, .int .i64 AT, .int .i64 ER]) ∧ Below w.heap.size w w') Exit.ret a w' := ⟨_, rfl⟩
                have HBB := Aside0.mk hBB
                clear hBB
                refine exit_region BB (by assumption) (fun a w' h => by rw [HBB.out] at h; (repeat (first | (with_reducible refine thenRet ?_) | (with_reducible refine blockRet ?_))); exact h) ?_
                go_wp2_with (first | ((with_reducible refine gate_dst (N := 216) rfl ?_); refine wpList_load_row ?hgd_216 24 (.tmp 5) ?ho_216 p ?hx_216 ?t_216 ?cs_216 ?fr_216 ?d_216 ?hg_216 ?hu_216 ?hd_216 ?hi_216 ?_; (case hgd_216 => rfl); (case ho_216 => rfl); (case hx_216 => rfl); (case hg_216 => exact B.out.blk); (case hu_216 => exact Tryd.underlying24); (case hd_216 => rfl); (case hi_216 => exact size24)) | ((with_reducible refine gate_store (p := 2) rfl ?_); refine wpList_store_row ?hgd_s216 24 (.tmp 2) (.tmp 216) ?ho_s216 g (ten 0 0 0 E0 E0 E0 E0 0 0 0) ?hx_s216 ?hy_s216 ?t_s216 ?old_s216 ?hg_s216 ?hi_s216 ?hold_s216 ?h1_s216 ?_; (case hgd_s216 => rfl); (case ho_s216 => rfl); (case hx_s216 => rfl); (case hy_s216 => rfl); (case hg_s216 => exact A.out.blk); (case hi_s216 => exact size24); (case hold_s216 => rfl); (case h1_s216 => exact ten_one _ _ _ _ _ _ _ _ _ _); have n0_ := Aside0.mk (setRow_below D.out A.out.base (ten 0 0 0 E0 E0 E0 E0 0 0 0)); have n1_ := Aside0.mk (Box.row A.out (ten 0 0 0 E0 E0 E0 E0 0 0 0)); have n2_ := Aside0.mk (Box.row_far B.out NE.out.symm (ten 0 0 0 E0 E0 E0 E0 0 0 0)); clear D; clear A; clear B; have D := n0_; have A := n1_; have B := n2_; clear n0_ n1_ n2_))
                rw [HBB.out]
                show bodyPost Tryd.prog Tryd.f18 _ Exit.ret _ _
                refine bodyPost_ret (results_cell3 (p := 2) (u := 3) (q := 4) rfl _ _ g 24 _ (0, 0) _ rfl A.out.blk Tryd.underlying24 rfl size24) rfl ?_
                obtain ⟨z1, z2, z3⟩ := HXF.out.1 hend
                exact ⟨by rw [z1, z2, z3]; rfl, D.out⟩
              · have hend2 : ¬ ((PN j : Int) < (s.size : Int)) := by omega
                go_upto_region 58 with (fail)
                obtain ⟨BB, hBB⟩ : ∃ BB : Act → World → Prop, BB = fun a w' => bodyPost Tryd.prog Tryd.f18 (fun e w' => e = .returned (.tuple #[.agg RES, .int .i64 AT, .int .i64 ER]) ∧ Below w.heap.size w w') Exit.ret a w' := ⟨_, rfl⟩
                have HBB := Aside0.mk hBB
                clear hBB
                refine exit_region BB (by assumption) (fun a w' h => by rw [HBB.out] at h; (repeat (first | (with_reducible refine thenRet ?_) | (with_reducible refine blockRet ?_))); exact h) ?_
                go_wp2_with (first | ((with_reducible refine gate_dst (N := 218) rfl ?_); refine wpList_load_row ?hgd_218 24 (.tmp 7) ?ho_218 q ?hx_218 ?t_218 ?cs_218 ?fr_218 ?d_218 ?hg_218 ?hu_218 ?hd_218 ?hi_218 ?_; (case hgd_218 => rfl); (case ho_218 => rfl); (case hx_218 => rfl); (case hg_218 => exact O.out.blk); (case hu_218 => exact Tryd.underlying24); (case hd_218 => rfl); (case hi_218 => exact size24)) | ((with_reducible refine gate_store (p := 2) rfl ?_); refine wpList_store_row ?hgd_s218 24 (.tmp 2) (.tmp 218) ?ho_s218 g (ten c t1 id (tx V i 0) (tx V i 1) (tx V i 2) (tx V i 3) (nm Y j 0) (nm Y j 1) (nm Y j 2)) ?hx_s218 ?hy_s218 ?t_s218 ?old_s218 ?hg_s218 ?hi_s218 ?hold_s218 ?h1_s218 ?_; (case hgd_s218 => rfl); (case ho_s218 => rfl); (case hx_s218 => rfl); (case hy_s218 => rfl); (case hg_s218 => exact A.out.blk); (case hi_s218 => exact size24); (case hold_s218 => rfl); (case h1_s218 => exact ten_one _ _ _ _ _ _ _ _ _ _); have n0_ := Aside0.mk (setRow_below D.out A.out.base (ten c t1 id (tx V i 0) (tx V i 1) (tx V i 2) (tx V i 3) (nm Y j 0) (nm Y j 1) (nm Y j 2))); have n1_ := Aside0.mk (Box.row A.out (ten c t1 id (tx V i 0) (tx V i 1) (tx V i 2) (tx V i 3) (nm Y j 0) (nm Y j 1) (nm Y j 2))); have n2_ := Aside0.mk (Box.row_far B.out NE.out.symm (ten c t1 id (tx V i 0) (tx V i 1) (tx V i 2) (tx V i 3) (nm Y j 0) (nm Y j 1) (nm Y j 2))); clear D; clear A; clear B; have D := n0_; have A := n1_; have B := n2_; clear n0_ n1_ n2_))
                rw [HBB.out]
                show bodyPost Tryd.prog Tryd.f18 _ Exit.ret _ _
                refine bodyPost_ret (results_cell3 (p := 2) (u := 3) (q := 4) rfl _ _ g 24 _ (0, 0) _ rfl A.out.blk Tryd.underlying24 rfl size24) rfl ?_
                obtain ⟨z1, z2, z3⟩ := HXF.out.2 hend
                exact ⟨by rw [z1, z2, z3]; rfl, D.out⟩
end Go.Proofs.YtmlhlcdamppbfaaDoor.Xa
