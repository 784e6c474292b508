/- frame.frames: the frames that it hands on, one by one. -/
import Derived.RangeFuncNested
import Derived.RangeFuncBound
import Derived.RangeFuncCalls
import Derived.RangeFuncLeaves
import Derived.RangeFuncBox
import Derived.Shelf.Abstract
import Derived.Shelf.RegionOpen
import Derived.WalkKit
import Derived.OwnWalkIn
import Derived.TacticsInMore
import Derived.LoopNIn
import Derived.LoopIn
import Derived.Maps.AppendAt
import Derived.Lib.SlBytesConst
import Derived.Test.YtojagnoobaleaaaDoorFrD
namespace Go.Proofs.YtojagnoobaleaaaDoor.Ext
open Go.RowKit Go.Shelf Go.Proofs.YtojagnoobaleaaaDoorW.PrintWords Go.Proofs.YtojagnoobaleaaaDoorW.PrintLast Go.Proofs.YtojagnoobaleaaaDoorW.PrintMore
set_option linter.unusedVariables false
set_option linter.unusedSimpArgs false
attribute [local go_sem] Oper.semAt_some max2_int min2_int max_two min_two
/-- A frame that came, or what is wrong, over the first world. -/
def Found (w0 : World) := {x : Value × List Int × Int × Int // OneV w0 x.1 x.2.1 x.2.2.2 ∧ (x.2.2.2 ≠ 0 → x.2.1 = []) ∧ x.2.1.length ≤ 20000}
def fEnc {w0 : World} (x : Found w0) : Array Value := #[.agg #[x.1.1, .int .i64 x.1.2.2.1, .int .i64 x.1.2.2.2]]
def fP {w0 : World} (x : Found w0) : List Int × Int × Int := x.1.2
/-- All of them. -/
def frsF : Nat → Int → List Int → List (List Int × Int × Int)
  | _, _, [] => []
  | 0, p, _ :: _ => [([], p, 5)]
  | n + 1, p, c :: l =>
    if (oneT (c :: l)).2.2 = 0 then ((oneT (c :: l)).1, p + (oneT (c :: l)).2.1, 0) :: frsF n (p + (oneT (c :: l)).2.1) ((c :: l).drop (oneT (c :: l)).2.1.toNat)
    else [([], p + (oneT (c :: l)).2.1, (oneT (c :: l)).2.2)]
def seqF (l : List Int) : List (List Int × Int × Int) :=
  if isUn magic l then [([], (like magic l : Int), 3)] else if l.length < 4 then [([], (l.length : Int), 2)] else frsF 4096 4 (l.drop 4)
/-- What a loop makes of them. -/
def colF (len : Int) : List (List Int × Int × Int) → List (List Int) × Int × Int
  | [] => ([], len, 0)
  | x :: r => if x.2.2 = 0 then (x.1 :: (colF len r).1, (colF len r).2) else ([], x.2)
theorem frs_nil (n : Nat) (p : Int) : frsF n p [] = [] := by cases n <;> rfl
theorem frs_zero {p : Int} {l : List Int} (h : l ≠ []) : frsF 0 p l = [([], p, 5)] := by
  cases l with
  | nil => exact absurd rfl h
  | cons c l => rfl
theorem frs_good (n : Nat) (p : Int) {l : List Int} (hne : l ≠ []) (h : (oneT l).2.2 = 0) : frsF (n + 1) p l = ((oneT l).1, p + (oneT l).2.1, 0) :: frsF n (p + (oneT l).2.1) (l.drop (oneT l).2.1.toNat) := by
  cases l with
  | nil => exact absurd rfl hne
  | cons c l => exact if_pos h
theorem frs_bad (n : Nat) (p : Int) {l : List Int} (hne : l ≠ []) (h : (oneT l).2.2 ≠ 0) : frsF (n + 1) p l = [([], p + (oneT l).2.1, (oneT l).2.2)] := by
  cases l with
  | nil => exact absurd rfl hne
  | cons c l => exact if_neg h
theorem col_frs : ∀ (n : Nat) (p len : Int) (l : List Int), Bytes l → len = p + l.length → colF len (frsF n p l) = ((manyT oneT n l).1, p + (manyT oneT n l).2.1, (manyT oneT n l).2.2)
  | n, p, len, [], _, h => by rw [frs_nil, many_nil]; simp [colF, h]
  | 0, p, len, c :: l, _, _ => by rw [frs_zero (by simp), many_zero (by simp)]; simp [colF]
  | n + 1, p, len, c :: l, hl, h => by
    by_cases he : (oneT (c :: l)).2.2 = 0
    · obtain ⟨x, r, hx, e⟩ := one_codec.sound _ hl he
      have hf := one_codec.full x r hx (by rw [e] at hl; exact hl.right)
      rw [← e] at hf
      rw [frs_good n p (by simp) he, many_good n (by simp) he]
      have ih := col_frs n (p + (oneT (c :: l)).2.1) len ((c :: l).drop (oneT (c :: l)).2.1.toNat) (hl.drop _) (by
        have hle := congrArg List.length e
        rw [List.length_append] at hle
        rw [List.length_drop, hf, h]; simp only [Int.toNat_natCast]; omega)
      simp only [colF, if_true, ih, Prod.mk.injEq, true_and, and_true]; omega
    · rw [frs_bad n p (by simp) he, many_bad n (by simp) he]
      simp only [colF, if_neg he]
theorem col_seq (l : List Int) (hl : Bytes l) : colF l.length (seqF l) = logF l := by
  unfold seqF
  split
  · rename_i h
    have := fix_un 3 h
    rw [log_bad (by rw [this]; simp), this]; simp [colF]
  · rename_i h
    have h' : isUn magic l = false := by simpa using h
    split
    · rename_i h4
      have := fix_short 3 h' (show l.length < magic.length from h4)
      rw [log_bad (by rw [this]; simp), this]; simp [colF]
    · rename_i h4
      have := fix_good 3 h' (show magic.length ≤ l.length by simp only [magic, List.length_cons, List.length_nil]; omega)
      unfold logF
      rw [if_pos (by rw [this])]
      exact col_frs 4096 4 l.length (l.drop 4) (hl.drop 4) (by rw [List.length_drop]; omega)
/-- What a round of the caller's leaves as it was. -/
structure Kpf (n₀ Bn : Nat) (W W' : World) : Prop where
  below : Below n₀ W W'
  cells : ∀ (g : Nat) (cs : Array Value), W.heap[g]? = some (.cells cs 51 (0, 0)) → W'.heap[g]? = some (.cells cs 51 (0, 0))
  box : Bn < W.heap.size → W'.heap[Bn]? = W.heap[Bn]?
theorem Boxed.below {W W' : World} {B : Nat} {t : TypeId} {v : Value} (h : Boxed W B t v) (hb : Below W.heap.size W W') : Boxed W' B t v := blk_below h hb
theorem grown_below {W W' : World} (h : Below W.heap.size W W') : W.grownBy W' none := ⟨h.os, h.tape, h.output, h.size, fun k hk _ => h.block k hk⟩
abbrev magicV : Array Value := #[.int .u8 84, .int .u8 82, .int .u8 78, .int .u8 49]
theorem magic_C (w : World) (fr : Nat × Nat) : Kd.C (Kd.int .u8) (w.alloc (.cells magicV 5 fr)) (some ⟨w.heap.size, 0, none⟩) 4 magic := by
  refine Kd.C_of_reads (d := (0 : Int)) (h1 := fun _ => rfl) ⟨rfl, by decide, fun hn => ⟨_, rfl, fun j hj => ?_⟩⟩
  rw [add_plain, cell_of_row _ _ _ _ _ _ (heap_alloc_new w _)]
  have : j = 0 ∨ j = 1 ∨ j = 2 ∨ j = 3 := by have : j < 4 := hj; omega
  rcases this with rfl | rfl | rfl | rfl <;> rfl
def wrongF (w0 : World) (p e : Int) (he : e ≠ 0) : Found w0 := ⟨(.slice none 0 0, [], p, e), OneV.bad he, (fun _ => rfl), by simp⟩
theorem OneV.form {w : World} {v : Value} {b : List Int} {er : Int} (h : OneV w v b er) : ∃ A n c, v = .slice A n c := by
  unfold OneV at h
  split at h
  · obtain ⟨A, c, rfl, _⟩ := h; exact ⟨A, _, c, rfl⟩
  · exact ⟨none, 0, 0, h⟩
abbrev set3 (W : World) (g : Nat) (v0 v1 v2 : Value) : World := ((W.setCell ⟨g, 0, none⟩ v0).setCell ⟨g, 1, none⟩ v1).setCell ⟨g, 2, none⟩ v2
theorem put3 {W : World} {g : Nat} {a0 a1 a2 : Value} (h : W.heap[g]? = some (.cells #[a0, a1, a2] 51 (0, 0))) (v0 v1 v2 : Value) : (set3 W g v0 v1 v2).heap[g]? = some (.cells #[v0, v1, v2] 51 (0, 0)) :=
  blk_put (blk_put (blk_put h 0 v0 rfl) 1 v1 rfl) 2 v2 rfl
theorem below3 {b : Nat} {w W : World} (h : Below b w W) (g : Nat) (hg : b ≤ g) (v0 v1 v2 : Value) : Below b w (set3 W g v0 v1 v2) := below_set (below_set (below_set h g 0 v0 hg) g 1 v1 hg) g 2 v2 hg
def mkF (w0 : World) (v : Value) (b : List Int) (p e : Int) (h : OneV w0 v b e) (hb : e = 0 → b.length ≤ 20000) : Found w0 := ⟨(v, if e = 0 then b else [], p, e), by
  by_cases he : e = 0
  · subst he; exact h
  · have := h; unfold OneV at this ⊢; rw [if_neg he] at this ⊢; exact this, (fun he => if_neg he), by
  by_cases he : e = 0
  · simp only [if_pos he]; exact hb he
  · simp only [if_neg he]; simp⟩
theorem one_at {m : List Int} (hm : Bytes m) : 0 ≤ (oneT m).2.1 ∧ (oneT m).2.1 ≤ m.length ∧ ((oneT m).2.2 = 0 → 0 < (oneT m).2.1) := by
  by_cases h0 : (oneT m).2.2 = 0
  · obtain ⟨x, r, hx, rfl⟩ := one_codec.sound m hm h0
    have hf := one_codec.full x r hx hm.right
    have hp := frE_pos x
    rw [hf]; simp only [List.length_append]; omega
  · refine ⟨?_, ?_, fun h => absurd h h0⟩
    · by_cases h2 : (oneT m).2.2 = 2
      · rw [one_codec.short m hm h2]; omega
      · obtain ⟨p, c, q, rfl, h3, _⟩ := one_codec.wrong m hm h0 h2
        rw [h3]; omega
    · by_cases h2 : (oneT m).2.2 = 2
      · rw [one_codec.short m hm h2]; omega
      · obtain ⟨p, c, q, rfl, h3, _⟩ := one_codec.wrong m hm h0 h2
        rw [h3, List.length_append]; simp only [List.length_cons]; omega
theorem one_most {m : List Int} (hm : Bytes m) (h0 : (oneT m).2.2 = 0) : (oneT m).1.length ≤ 20000 := by
  obtain ⟨x, r, hx, rfl⟩ := one_codec.sound m hm h0
  rw [one_codec.full x r hx hm.right]; exact hx.1
theorem most_of {m : List Int} (hm : Bytes m) {a er : Int} (h : (oneT m).2 = (a, er)) : er = 0 → (oneT m).1.length ≤ 20000 := fun he => one_most hm (by rw [h]; exact he)
/-- One frame more. -/
theorem seq_step {w0 : World} {l : List Int} {pre : List (Found w0)} {p q k : Nat} {er : Int} {v : Value} (hl : Bytes l) (hlt : p < l.length) (hk : k < 4096) (hs : pre.map fP ++ frsF (4096 - k) p (l.drop p) = seqF l) (h1 : (oneT (l.drop p)).2 = ((q : Int) - p, er)) (h2 : OneV w0 v (oneT (l.drop p)).1 er) (h3 : er = 0 → (oneT (l.drop p)).1.length ≤ 20000) :
    (er = 0 → (pre ++ [mkF w0 v (oneT (l.drop p)).1 q er h2 h3]).map fP ++ frsF (4096 - (k + 1)) q (l.drop q) = seqF l ∧ p < q) ∧ (er ≠ 0 → (pre ++ [mkF w0 v (oneT (l.drop p)).1 q er h2 h3]).map fP = seqF l) := by
  have hne : l.drop p ≠ [] := fun z => by have := congrArg List.length z; rw [List.length_drop, List.length_nil] at this; omega
  have hn : 4096 - k = (4096 - (k + 1)) + 1 := by omega
  rw [hn] at hs
  have h11 : (oneT (l.drop p)).2.1 = (q : Int) - p := by rw [h1]
  have h12 : (oneT (l.drop p)).2.2 = er := by rw [h1]
  refine ⟨fun he => ?_, fun he => ?_⟩
  · have ha := one_at (hl.drop p)
    rw [h11, h12] at ha
    have hpq := ha.2.2 he
    rw [frs_good _ _ hne (by rw [h12]; exact he), h11, List.drop_drop] at hs
    rw [show p + ((q : Int) - p).toNat = q by omega, show (p : Int) + ((q : Int) - p) = q by omega] at hs
    refine ⟨?_, by omega⟩
    rw [← hs, List.map_append, List.append_assoc]
    subst he
    rfl
  · rw [frs_bad _ _ hne (by rw [h12]; exact he), h11, h12, show (p : Int) + ((q : Int) - p) = q by omega] at hs
    rw [← hs, List.map_append]
    simp only [mkF, if_neg he]
    rfl
section
variable {w0 : World} {A : Option Addr} {c : Nat} {l : List Int} {n l_ Bn n₀ N : Nat} {J Jx : List (Found w0) → World → Prop} {W : World}
abbrev YieldsF (n l_ Bn n₀ N : Nat) (J Jx : List (Found w0) → World → Prop) : Prop :=
  ∀ pre x W1, J pre W1 → pre.length < N → YieldAt Fence.wide (n - 1) Tryd.prog l_ (fEnc x) W1 fun e W' => (e = .returned (.bool true) ∧ J (pre ++ [x]) W' ∧ Kpf n₀ Bn W1 W') ∨ (e = .returned (.bool false) ∧ Jx (pre ++ [x]) W')
set_option maxRecDepth 100000 in
set_option maxHeartbeats 1000000 in
theorem frames1_bad (hn : 1 ≤ n) (hA : Kd.C (Kd.int .u8) w0 A l.length l) (hl : Bytes l) (hlen : l.length ≤ 1048576) (hB : Below w0.heap.size w0 W) (hb : Boxed W Bn 22 (.slice A l.length c)) (hJ : AbidesFrom W.heap.size J)
    (hN : 0 < N) (hY : YieldsF n l_ Bn n₀ N J Jx) (h0 : J [] W) (hU : isUn magic l = true) :
    CallsIn Fence.wide n Tryd.prog 31 #[.func (.yield l_) #[] #[], .pointer (some ⟨Bn, 0, none⟩)] W fun e W' => (∃ v, e = .returned v) ∧ ((∃ ys, ys.map fP = seqF l ∧ J ys W') ∨ (∃ pre, pre.map fP <+: seqF l ∧ Jx pre W')) := by
  have hu : unF magic l = ((like magic l : Int), true) := by unfold unF; rw [hU, if_pos rfl]
  have hs : seqF l = [([], (like magic l : Int), 3)] := by unfold seqF; rw [if_pos hU]
  have hk := like_le magic l
  have hm4 : magic.length = 4 := rfl
  obtain ⟨i, hi⟩ : ∃ i, i = (like magic l : Int) := ⟨_, rfl⟩
  rw [← hi] at hu hs
  have hi0 : 0 ≤ i := by omega
  have hi1 : i ≤ 4 := by omega
  have HS := Aside0.mk hs
  have HU := Aside0.mk hu
  have HY := Aside0.mk hY
  have HA := Aside0.mk hA
  have HB := Aside0.mk hB
  have HJ := Aside0.mk hJ
  have H0 := Aside0.mk h0
  clear hs hu hk hm4 hi hY hA hB hJ h0
  have hc := (hb.alloc (.cells magicV 5 (4, 5))).cell
  refine callsIn_of_wp Tryd.func31 rfl trivial ?_ rfl
  simp only [Tryd.ntmps31, List.size_toArray, List.length_cons, List.length_nil, Nat.reduceAdd, Nat.reduceSub, Array.replicate_succ, Array.replicate_zero, List.push_toArray, List.append_toArray, List.nil_append, List.cons_append]
  have kc := fun (w : World) (C : Array Value) (n c : Nat) => Lib.run_convert_bytes_const (P := Tryd.prog) w 22 5 C n c Tryd.underlying22 Tryd.underlying5
  gi_wp2_with (first | (refine ⟨trivial, ?_⟩; gi_at_call 32; refine (callsIn_wide.2 (unlike_at (n := 4) (c := 4) magic l _ rfl rfl (magic_C W (4, 5)) (Kd.C_below (Kd.C_below HA.out HB.out) (below_alloc (Below.refl _ _) _)) (by omega) (by omega) _ _ HU.out)).mono ?_; rintro e w1 ⟨rfl, hd⟩; have HB1 := Aside0.mk ((below_alloc (Below.refl _ W) _).trans (hd.below.mono (by simp)))) | (refine ⟨trivial, ?_⟩; gi_at_call 33; refine (callsIn_wide.2 (wrong_calls _ _ _)).mono ?_; rintro e w2 ⟨rfl, hd2⟩; have HB2 := Aside0.mk (HB1.out.trans (hd2.mono HB1.out.size)); have hJ2 : J [] w2 := HJ.out [] W w2 none H0.out (grown_below HB2.out) (by simp); clear hd hd2 HB1 hJ2; obtain ⟨fn, tmps, assign, body, hy, hR⟩ := HY.out [] (wrongF w0 i 3 (by decide)) w2 (HJ.out [] W w2 none H0.out (grown_below HB2.out) (by simp)) hN; dsimp only [fEnc, wrongF] at hy))
  refine hR.mono ?_
  rintro e W3 (⟨rfl, hJ', hk⟩ | ⟨rfl, hJx'⟩)
  · gi_wp2
    refine bodyPost_ret (results_none rfl _ _ _) rfl ?_
    exact ⟨⟨_, rfl⟩, .inl ⟨_, by rw [HS.out]; rfl, hJ'⟩⟩
  · gi_wp2
    refine bodyPost_ret (results_none rfl _ _ _) rfl ?_
    exact ⟨⟨_, rfl⟩, .inr ⟨_, by rw [HS.out]; exact List.prefix_refl _, hJx'⟩⟩
set_option maxRecDepth 100000 in
set_option maxHeartbeats 1000000 in
theorem frames1_short (hn : 1 ≤ n) (hA : Kd.C (Kd.int .u8) w0 A l.length l) (hl : Bytes l) (hlen : l.length ≤ 1048576) (hB : Below w0.heap.size w0 W) (hb : Boxed W Bn 22 (.slice A l.length c)) (hJ : AbidesFrom W.heap.size J)
    (hN : 0 < N) (hY : YieldsF n l_ Bn n₀ N J Jx) (h0 : J [] W) (hU : isUn magic l = false) (h4 : l.length < 4) :
    CallsIn Fence.wide n Tryd.prog 31 #[.func (.yield l_) #[] #[], .pointer (some ⟨Bn, 0, none⟩)] W fun e W' => (∃ v, e = .returned v) ∧ ((∃ ys, ys.map fP = seqF l ∧ J ys W') ∨ (∃ pre, pre.map fP <+: seqF l ∧ Jx pre W')) := by
  have hu : unF magic l = (0, false) := by unfold unF; rw [hU, if_neg (by decide)]
  have hs : seqF l = [([], (l.length : Int), 2)] := by unfold seqF; rw [if_neg (by rw [hU]; decide), if_pos h4]
  have hm4 : magic.length = 4 := rfl
  have HS := Aside0.mk hs
  have HU := Aside0.mk hu
  have HY := Aside0.mk hY
  have HA := Aside0.mk hA
  have HB := Aside0.mk hB
  have HJ := Aside0.mk hJ
  have H0 := Aside0.mk h0
  clear hs hu hm4 hY hA hB hJ h0
  have hc := (hb.alloc (.cells magicV 5 (4, 5))).cell
  refine callsIn_of_wp Tryd.func31 rfl trivial ?_ rfl
  simp only [Tryd.ntmps31, List.size_toArray, List.length_cons, List.length_nil, Nat.reduceAdd, Nat.reduceSub, Array.replicate_succ, Array.replicate_zero, List.push_toArray, List.append_toArray, List.nil_append, List.cons_append]
  have kc := fun (w : World) (C : Array Value) (n c : Nat) => Lib.run_convert_bytes_const (P := Tryd.prog) w 22 5 C n c Tryd.underlying22 Tryd.underlying5
  have d4 : decide ((l.length : Int) < 4) = true := by simp only [decide_eq_true_eq]; omega
  have d5 : decide (l.length < 4) = true := by simpa using h4
  gi_wp2_with (first | (refine ⟨trivial, ?_⟩; gi_at_call 32; refine (callsIn_wide.2 (unlike_at (n := 4) (c := 4) magic l _ rfl rfl (magic_C W (4, 5)) (Kd.C_below (Kd.C_below HA.out HB.out) (below_alloc (Below.refl _ _) _)) (by omega) (by omega) _ _ HU.out)).mono ?_; rintro e w1 ⟨rfl, hd⟩; have HB1 := Aside0.mk ((below_alloc (Below.refl _ W) _).trans (hd.below.mono (by simp))); have hc2 := (Boxed.below hb HB1.out).cell) | (refine ⟨trivial, ?_⟩; gi_at_call 33; refine (callsIn_wide.2 (wrong_calls _ _ _)).mono ?_; rintro e w2 ⟨rfl, hd2⟩; have HB2 := Aside0.mk (HB1.out.trans (hd2.mono HB1.out.size)); have hJ2 : J [] w2 := HJ.out [] W w2 none H0.out (grown_below HB2.out) (by simp); clear hd hd2 HB1 hJ2 hc2; obtain ⟨fn, tmps, assign, body, hy, hR⟩ := HY.out [] (wrongF w0 l.length 2 (by decide)) w2 (HJ.out [] W w2 none H0.out (grown_below HB2.out) (by simp)) hN; dsimp only [fEnc, wrongF] at hy))
  refine hR.mono ?_
  rintro e W3 (⟨rfl, hJ', hk⟩ | ⟨rfl, hJx'⟩)
  · gi_wp2
    refine bodyPost_ret (results_none rfl _ _ _) rfl ?_
    exact ⟨⟨_, rfl⟩, .inl ⟨_, by rw [HS.out]; rfl, hJ'⟩⟩
  · gi_wp2
    refine bodyPost_ret (results_none rfl _ _ _) rfl ?_
    exact ⟨⟨_, rfl⟩, .inr ⟨_, by rw [HS.out]; exact List.prefix_refl _, hJx'⟩⟩
set_option maxRecDepth 100000 in
set_option maxHeartbeats 1000000 in
theorem frames1_loop (hn : 1 ≤ n) (hA : Kd.C (Kd.int .u8) w0 A l.length l) (hl : Bytes l) (hlen : l.length ≤ 1048576) (hB : Below w0.heap.size w0 W) (hb : Boxed W Bn 22 (.slice A l.length c)) (hJ : AbidesFrom W.heap.size J)
    (hN : 4096 < N) (hY : YieldsF n l_ Bn n₀ N J Jx) (h0 : J [] W) (hU : isUn magic l = false) (h4 : ¬ l.length < 4) (hG : Glob w0) (hc : l.length ≤ c) (hn₀ : w0.heap.size ≤ n₀) :
    CallsIn Fence.wide n Tryd.prog 31 #[.func (.yield l_) #[] #[], .pointer (some ⟨Bn, 0, none⟩)] W fun e W' => (∃ v, e = .returned v) ∧ ((∃ ys, ys.map fP = seqF l ∧ J ys W') ∨ (∃ pre, pre.map fP <+: seqF l ∧ Jx pre W')) := by
  have hu : unF magic l = (0, false) := by unfold unF; rw [hU, if_neg (by decide)]
  have hs : seqF l = frsF 4096 4 (l.drop 4) := by unfold seqF; rw [if_neg (by rw [hU]; decide), if_neg h4]
  have HS := Aside0.mk hs
  have HU := Aside0.mk hu
  have HY := Aside0.mk hY
  have HA := Aside0.mk hA
  have HB := Aside0.mk hB
  have HJ := Aside0.mk hJ
  have H0 := Aside0.mk h0
  have HG := Aside0.mk hG
  have HC := Aside0.mk hc
  have HL := Aside0.mk hl
  clear hs hu hY hA hB hJ h0 hG hc hl
  have hcc := (hb.alloc (.cells magicV 5 (4, 5))).cell
  have d4 : decide ((l.length : Int) < 4) = false := by simp only [decide_eq_false_iff_not]; omega
  have d5 : decide (l.length < 4) = false := by simpa using h4
  have hm4 : magic.length = 4 := rfl
  refine callsIn_of_wp Tryd.func31 rfl trivial ?_ rfl
  simp only [Tryd.ntmps31, List.size_toArray, List.length_cons, List.length_nil, Nat.reduceAdd, Nat.reduceSub, Array.replicate_succ, Array.replicate_zero, List.push_toArray, List.append_toArray, List.nil_append, List.cons_append]
  have kc := fun (w : World) (C : Array Value) (n c : Nat) => Lib.run_convert_bytes_const (P := Tryd.prog) w 22 5 C n c Tryd.underlying22 Tryd.underlying5
  gi_wp2_with ((refine ⟨trivial, ?_⟩; gi_at_call 32; refine (callsIn_wide.2 (unlike_at (n := 4) (c := 4) magic l _ rfl rfl (magic_C W (4, 5)) (Kd.C_below (Kd.C_below HA.out HB.out) (below_alloc (Below.refl _ _) _)) (by omega) (by omega) _ _ HU.out)).mono ?_; rintro e w1 ⟨rfl, hd⟩; have HB1 := Aside0.mk ((below_alloc (Below.refl _ W) _).trans (hd.below.mono (by simp))); have hc2 := (Boxed.below hb HB1.out).cell; clear hd))
  have HJ1 := Aside0.mk (HJ.out [] W w1 none H0.out (grown_below HB1.out) (by simp))
  have HX1 := Aside0.mk (Boxed.below hb HB1.out)
  have HB01 := Aside0.mk (HB.out.trans (HB1.out.mono HB.out.size))
  have HZ1 := Aside0.mk HB1.out.size
  clear hc2 kc d4 d5 hcc hb
  gi_loopw [5, 6] (fun v5 v6 wr => ∃ (p k : Nat) (pre : List (Found w0)), v5 = .int .i64 p ∧ v6 = .int .i64 k ∧ p ≤ l.length ∧ k ≤ 4096 ∧ Aside0 (pre.length = k) ∧ Aside0 (pre.map fP ++ frsF (4096 - k) p (l.drop p) = seqF l) ∧ Aside0 (J pre wr) ∧ Aside0 (Boxed wr Bn 22 (.slice A l.length c)) ∧ Aside0 (Below w0.heap.size w0 wr) ∧ Aside0 (W.heap.size ≤ wr.heap.size))
    (fun v5 v6 wr => l.length - (intOf v5).toNat)
  case atStart => exact ⟨4, 0, [], rfl, rfl, by omega, by omega, ⟨rfl⟩, ⟨by rw [HS.out]; rfl⟩, HJ1, HX1, HB01, HZ1⟩
  case round =>
    obtain ⟨p, k, pre, rfl, rfl, hp, hk, HPL, HSQ, HJr, HX, HBr, HZ⟩ := hrel
    clear HJ1 HX1 HB01 HZ1 H0
    have hcx := HX.out.cell
    by_cases hlt : p < l.length
    · by_cases hk4 : k < 4096
      · have dk : decide ((k : Int) < 4096) = true := by simp only [decide_eq_true_eq]; omega
        have dk2 : decide (k < 4096) = true := by simpa using hk4
        gi_wp2_with (first | (refine ⟨trivial, ?_⟩; gi_at_call 33; refine (callsIn_wide.2 (wrong_calls _ _ _)).mono ?_; rintro e w2 ⟨rfl, hd2⟩; have HD2 := Aside0.mk hd2; clear hd2; have hc3 := ((Boxed.below HX.out HD2.out).alloc (.cells #[.slice none 0 0, .int .i64 p, .int .i64 5] 51)).cell) | (refine ⟨trivial, ?_⟩; gi_at_call 34; refine (callsIn_wide.2 (one_calls A c l p w0 _ (HG.out.below (below_alloc (below_step HBr.out HD2.out) _)) HA.out (below_alloc (below_step HBr.out HD2.out) _) HC.out HL.out hlen hp)).mono ?_; rintro e w3 ⟨v, at_, er, rfl, hO1, hO2, hb3⟩; have HO1 := Aside0.mk hO1; have HO2 := Aside0.mk hO2; have HB3 := Aside0.mk hb3; clear hO1 hO2 hb3 hc3; obtain ⟨A2, n2, c2, rfl⟩ := OneV.form HO2.out; have HBK := Aside0.mk (blk_below (blk_new w2 (.cells #[.slice none 0 0, .int .i64 p, .int .i64 5] 51)) HB3.out); have HBP := Aside0.mk (put3 HBK.out (.slice A2 n2 c2) (.int .i64 at_) (.int .i64 er)); have e0 : w3.cell? ⟨w2.heap.size, 0, none⟩ = some (.slice none 0 0) := blk_cell HBK.out 0; have e1 : w3.cell? ⟨w2.heap.size, 1, none⟩ = some (.int .i64 p) := blk_cell HBK.out 1; have e2 : w3.cell? ⟨w2.heap.size, 2, none⟩ = some (.int .i64 5) := blk_cell HBK.out 2; have q0 := blk_frozen HBK.out 0; have q1 := blk_frozen HBK.out 1; have q2 := blk_frozen HBK.out 2; obtain ⟨q, rfl⟩ : ∃ q : Nat, at_ = (q : Int) := ⟨at_.toNat, by have h_ := one_at (HL.out.drop p); rw [HO1.out] at h_; simp only [] at h_; omega⟩; obtain ⟨fn, tmps, assign, body, hy, hR⟩ := HY.out pre (mkF w0 (.slice A2 n2 c2) (oneT (l.drop p)).1 q er HO2.out (most_of (HL.out.drop p) HO1.out)) (set3 w3 w2.heap.size (.slice A2 n2 c2) (.int .i64 q) (.int .i64 er)) (HJ.out pre wr _ none HJr.out (grown_below (below3 (below_step (below_alloc HD2.out _) HB3.out) _ HD2.out.size _ _ _)) (by simp)) (by rw [HPL.out]; omega); dsimp only [fEnc, mkF] at hy))
        have SS := Aside0.mk (seq_step HL.out hlt hk4 HSQ.out HO1.out HO2.out (most_of (HL.out.drop p) HO1.out))
        have hq := one_at (HL.out.drop p)
        rw [HO1.out] at hq
        simp only [List.length_drop] at hq
        have hq2 : q ≤ l.length := by omega
        clear hq
        have HWB := Aside0.mk (below3 (below_step (below_alloc HD2.out (.cells #[.slice none 0 0, .int .i64 p, .int .i64 5] 51)) HB3.out) w2.heap.size HD2.out.size (.slice A2 n2 c2) (.int .i64 q) (.int .i64 er))
        refine hR.mono ?_
        rintro e W5 (⟨rfl, hJ5, hK5⟩ | ⟨rfl, hJx5⟩)
        · have HJ5 := Aside0.mk hJ5
          have HK5 := Aside0.mk hK5
          have HB5 := Aside0.mk (hK5.cells _ _ HBP.out)
          clear hJ5 hK5 hy hR e0 e1 e2 q0 q1 q2
          have e1 : W5.cell? ⟨w2.heap.size, 1, none⟩ = some (.int .i64 q) := blk_cell HB5.out 1
          have e2 : W5.cell? ⟨w2.heap.size, 2, none⟩ = some (.int .i64 er) := blk_cell HB5.out 2
          by_cases he : er = 0
          · subst he
            gi_wp2
            have hpq := (SS.out.1 trivial).2
            refine ⟨⟨q, k + 1, _, rfl, by go_num, hq2, by omega, ⟨by rw [List.length_append, HPL.out]; rfl⟩, ⟨(SS.out.1 trivial).1⟩, HJ5, ⟨(HK5.out.box (Nat.lt_of_lt_of_le HX.out.lt HWB.out.size)).trans ((HWB.out.block Bn HX.out.lt).trans HX.out)⟩, ⟨(below_step HBr.out HWB.out).trans (HK5.out.below.mono hn₀)⟩, ⟨Nat.le_trans HZ.out (Nat.le_trans HWB.out.size HK5.out.below.size)⟩⟩, ?_⟩
            simp only [intOf, Int.toNat_natCast]; omega
          · have he1 : (er == 0) = false := by simpa using he
            have he2 : (er != 0) = true := by simpa using he
            gi_wp2
            refine bodyPost_ret (results_none rfl _ _ _) rfl ?_
            exact ⟨⟨_, rfl⟩, .inl ⟨_, SS.out.2 he, HJ5.out⟩⟩
        · have HJx5 := Aside0.mk hJx5
          clear hJx5 hy hR e0 e1 e2 q0 q1 q2
          gi_wp2
          refine bodyPost_ret (results_none rfl _ _ _) rfl ?_
          refine ⟨⟨_, rfl⟩, .inr ⟨_, ?_, HJx5.out⟩⟩
          by_cases he : er = 0
          · exact ⟨_, (SS.out.1 he).1⟩
          · rw [SS.out.2 he]; exact List.prefix_refl _
      · have dk : decide ((k : Int) < 4096) = false := by simp only [decide_eq_false_iff_not]; omega
        have dk2 : decide (k < 4096) = false := by simpa using hk4
        gi_wp2_with ((refine ⟨trivial, ?_⟩; gi_at_call 33; refine (callsIn_wide.2 (wrong_calls _ _ _)).mono ?_; rintro e w2 ⟨rfl, hd2⟩; have HD2 := Aside0.mk hd2; clear hd2; obtain ⟨fn, tmps, assign, body, hy, hR⟩ := HY.out pre (wrongF w0 p 5 (by decide)) (w2.alloc (.cells #[.slice none 0 0, .int .i64 p, .int .i64 5] 51)) (HJ.out pre wr _ none HJr.out (grown_below (below_alloc HD2.out _)) (by simp)) (by rw [HPL.out]; omega); dsimp only [fEnc, wrongF] at hy))
        have HSE := Aside0.mk (show (pre ++ [wrongF w0 p 5 (by decide)]).map fP = seqF l by
          have h_ := HSQ.out
          rw [show 4096 - k = 0 by omega, frs_zero (fun z => by have := congrArg List.length z; rw [List.length_drop, List.length_nil] at this; omega)] at h_
          rw [← h_, List.map_append]; rfl)
        refine hR.mono ?_
        rintro e W5 (⟨rfl, hJ5, hK5⟩ | ⟨rfl, hJx5⟩)
        · have HJ5 := Aside0.mk hJ5
          have HB5 := Aside0.mk (hK5.cells _ _ (blk_new w2 (.cells #[.slice none 0 0, .int .i64 p, .int .i64 5] 51)))
          clear hJ5 hK5 hy hR
          have e2 : W5.cell? ⟨w2.heap.size, 2, none⟩ = some (.int .i64 5) := blk_cell HB5.out 2
          gi_wp2
          refine bodyPost_ret (results_none rfl _ _ _) rfl ?_
          exact ⟨⟨_, rfl⟩, .inl ⟨_, HSE.out, HJ5.out⟩⟩
        · have HJx5 := Aside0.mk hJx5
          clear hJx5 hy hR
          gi_wp2
          refine bodyPost_ret (results_none rfl _ _ _) rfl ?_
          exact ⟨⟨_, rfl⟩, .inr ⟨_, by rw [HSE.out]; exact List.prefix_refl _, HJx5.out⟩⟩
    · obtain rfl : p = l.length := by omega
      gi_wp2
      go_end0
      refine ⟨⟨_, rfl⟩, .inl ⟨pre, ?_, HJr.out⟩⟩
      have := HSQ.out
      rw [List.drop_length, frs_nil, List.append_nil] at this
      exact this
end
/-- frames(b) hands its frames on, one by one. -/
theorem frames_stops {w0 W : World} {A : Option Addr} {c Bn n₀ n : Nat} {l : List Int} (hn : 1 ≤ n) (hA : Kd.C (Kd.int .u8) w0 A l.length l) (hl : Bytes l) (hlen : l.length ≤ 1048576) (hB : Below w0.heap.size w0 W) (hb : Boxed W Bn 22 (.slice A l.length c))
    (hG : Glob w0) (hc : l.length ≤ c) (hn₀ : w0.heap.size ≤ n₀) :
    SeqStopsK Fence.wide n Tryd.prog 31 #[.pointer (some ⟨Bn, 0, none⟩)] (fun x : Found w0 => fEnc x) (Kpf n₀ Bn) (fun ys => ys.map fP = seqF l) (fun pre => pre.map fP <+: seqF l) 4097 W := fun l_ J Jx W1 hW hJ hJx hY h0 => by
  have hB1 := below_step hB hW
  have hb1 : Boxed W1 Bn 22 (.slice A l.length c) := blk_below hb hW
  cases hU : isUn magic l with
  | true => exact frames1_bad hn hA hl hlen hB1 hb1 hJ (by decide) hY h0 hU
  | false =>
    by_cases h4 : l.length < 4
    · exact frames1_short hn hA hl hlen hB1 hb1 hJ (by decide) hY h0 hU h4
    · exact frames1_loop hn hA hl hlen hB1 hb1 hJ (by decide) hY h0 hU h4 hG hc hn₀
/-- frames(b): the argument is boxed. -/
theorem frames_calls (v : Value) (w : World) (A : Option Addr) (m c : Nat) (hv : v = .slice A m c) : Calls Tryd.prog 23 #[v] w fun e w' => e = .returned (.func (.func 31) #[] #[.pointer (some ⟨w.heap.size, 0, none⟩)]) ∧ w' = w.alloc (.cells #[v] 22) := by
  subst hv
  go_enter Tryd.func23, Tryd.ntmps23
  go_wp2
  go_ret
  exact ⟨rfl, rfl⟩
end Go.Proofs.YtojagnoobaleaaaDoor.Ext
