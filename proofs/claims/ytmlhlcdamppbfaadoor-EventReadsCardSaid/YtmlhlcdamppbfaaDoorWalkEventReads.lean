/- The law EventReads: its walk, by hand. -/
import Derived.Test.YtmlhlcdamppbfaaDoorEvW
import Derived.WalkSpells
import Derived.Test.YtmlhlcdamppbfaaDoorEvX
import Derived.Test.YtmlhlcdamppbfaaDoorHwE
namespace Go.Proofs.YtmlhlcdamppbfaaDoor.Xa
open Go.RowKit Go.Proofs.YtmlhlcdamppbfaaDoor.Ext Go.Proofs.YtmlhlcdamppbfaaDoor.Pure Go.Proofs.YtmlhlcdamppbfaaDoorW.PrintWords Go.Proofs.YtmlhlcdamppbfaaDoorW.PrintLast Go.Proofs.YtmlhlcdamppbfaaDoorW.PrintMore
attribute [local go_sem] max2_int min2_int max_two min_two max_three min_three max_four min_four
set_option linter.unusedVariables false
set_option linter.unusedSimpArgs false
attribute [local go_sem high] eqA24
/-- The block of an own row, if it has one. -/
def OwB (w W : World) (A : Option Addr) (M : Nat) : Prop := 0 < M → ∃ g cs, A = some ⟨g, 0, none⟩ ∧ w.heap.size ≤ g ∧ W.heap[g]? = some (.cells cs 5 (0, 0)) ∧ M ≤ cs.size
theorem OwB.then_ {w W W' : World} {A : Option Addr} {M : Nat} (h : OwB w W A M) (hb : Below W.heap.size W W') : OwB w W' A M := fun hp => by
  obtain ⟨g, cs, e, h1, h2, h3⟩ := h hp
  exact ⟨g, cs, e, h1, blk_below h2 hb, h3⟩
theorem OwB.put {w W : World} {A : Option Addr} {M g j : Nat} {cs : Array Value} (e : A = some ⟨g, 0, none⟩) (h1 : w.heap.size ≤ g) (h2 : W.heap[g]? = some (.cells cs 5 (0, 0))) (h3 : M ≤ cs.size) (v : Value) : OwB w (W.setCell ⟨g, j, none⟩ v) A M := fun _ =>
  ⟨g, cs.setIfInBounds j v, e, h1, blk_set h2 j v, by rw [Array.size_setIfInBounds]; exact h3⟩
theorem OwB.of {w W : World} {A : Option Addr} {c : Nat} {b : List Int} {ok : Nat → Prop} (h : Kd.R (Kd.int .u8) 5 W w.heap.size ok (.slice A b.length c) b) : OwB w W A b.length := fun hp => by
  obtain ⟨g, cap, e, k1, k2, cs, k3⟩ := Kd.R_form h hp
  injection e with e1 e2 e3
  subst e1; subst e3
  refine ⟨g, cs, rfl, k1, k3, ?_⟩
  obtain ⟨hx, _⟩ := Kd.R_celln 0 h ((b.length - 1 : Nat) : Int) (by omega) (by omega)
  rw [Int.toNat_natCast, cell_of_row _ _ _ _ _ _ k3] at hx
  have := (Array.getElem?_eq_some_iff.1 hx).1
  omega
set_option maxHeartbeats 2000000 in
set_option maxRecDepth 100000 in
theorem reads_walk (z0 z1 z2 : Int) (z3 z4 z5 z6 : ByteArray) (z7 z8 z9 pos er : Int) (A1 : Option Addr) (c1 M : Nat) (l b : List Int) (S : ByteArray)
    (hmin : (if 6000 < (l.length : Int) then 6000 else (l.length : Int)) = (M : Int)) (hM : M ≤ l.length) (hM6 : M ≤ 6000) (hcl : l.length ≤ c1) (hbl : b.length = M)
    (w : World) (hCB : Kd.C (Kd.int .u8) w A1 M b) (hG : Glob w) (hS : strOfNums b = S)
    (hD : event_Decode.f b = some (z0, z1, z2, z3, z4, z5, z6, z7, z8, z9, pos, er))
    (hR : ∀ w, Calls Tryd.prog 18 #[.string S] w fun e w' => e = .returned (.tuple #[.agg (ten z0 z1 z2 z3 z4 z5 z6 z7 z8 z9), .int .i64 pos, .int .i64 er]) ∧ Below w.heap.size w w') :
    Calls Tryd.prog 4 #[.slice A1 l.length c1] w fun e w' => e = .returned (.bool true) ∧ Below w.heap.size w w' := by
  have HG := Aside0.mk hG
  have HCB := Aside0.mk hCB
  have hM1 : M ≤ c1 := Nat.le_trans hM hcl
  have HB := Aside0.mk (show b.length = M ∧ M ≤ c1 from ⟨hbl, hM1⟩)
  have H6 := Aside0.mk hM6
  have HS := Aside0.mk hS
  have HD := Aside0.mk hD
  have HR := Aside0.mk hR
  clear hG hCB hbl hM6 hS hD hR
  have D := Aside0.mk (Below.refl w.heap.size w)
  go_enter Tryd.func4, Tryd.ntmps4
  go_upto_region 3 with (first | ((with_reducible refine gate_dst (N := 13) rfl ?_); (with_reducible refine gate_callee (f := 11) rfl ?_); refine goesL_ (some 13) rfl rfl Tryd.func11 (by kernel_rfl) rfl #[] rfl (by (try simp only [List.map_toArray, List.map_cons, List.map_nil]); first | done | rfl) ?_; refine (transeptlaw05_shown.calls true _ (HG.out.below D.out) rfl).mono ?_; rintro e wz_ ⟨rfl, hb⟩; refine ⟨_, rfl, ?_⟩; have n0_ := Aside0.mk (below_step D.out hb); clear D; have D := n0_; clear n0_; clear hb))
  have HE := Aside0.mk (own_lit wz_ w.heap.size 5 .u8 [] D.out.size (by simp))
  go_wp2_with ((at_builtin; refine Kd.R_append_row (Value.int .u8) 0 (h1 := fun _ => rfl) (w0 := w) w.heap.size (by rfl) (.tmp 19) (.tmp 20) 27 5 (.int .u8 0) 1 rfl Tryd.underlying27 info5 rfl (by decide) (.slice (some ⟨wz_.heap.size, 0, none⟩) 0 0) [] b A1 M c1 (fun _ => True) rfl rfl (fun _ _ => trivial) ?aO ?aR ?aB ?aS ?aL ?_))
  case aO => exact Kd.R_of_own HE.out (fun _ _ => trivial)
  case aR => exact Kd.C_alloc (Kd.C_below HCB.out D.out) _
  case aB => exact below_alloc D.out _
  case aS => have h_ := D.out.size; simp only [World.alloc]; simp; omega
  case aL => simp only [List.length_nil]; have h_ := H6.out; omega
  intro v1 w1 hv hb hg _
  obtain ⟨A4, c4, e, hk, hC⟩ := Kd.R_reads hv
  subst e
  have B := Aside0.mk (OwB.of hv)
  have C4 := Aside0.mk hC
  have K4 := Aside0.mk hk
  have D' := Aside0.mk hb
  clear D HE hv hb hg hk hC
  have D := D'
  clear D'
  rw [HB.out.1] at B C4 K4
  rw [HB.out.1]
  go_upto_region 5 with (first | ((with_reducible refine gate_dst (N := 24) rfl ?_); (with_reducible refine gate_callee (f := 17) rfl ?_); refine goesL_ (some 24) rfl rfl Tryd.func17 (by kernel_rfl) rfl #[.slice A4 M c4] rfl (by (try simp only [List.map_toArray, List.map_cons, List.map_nil]); first | done | rfl) ?_; refine (dec_w A4 c4 M b HB.out.1 K4.out (HG.out.below D.out) C4.out HD.out).mono ?_; rintro e wz_ ⟨rfl, hb⟩; refine ⟨_, rfl, ?_⟩; have n0_ := Aside0.mk (below_step D.out hb); have n1_ := Aside0.mk (B.out.then_ hb); have n2_ := Aside0.mk (Kd.C_below C4.out hb); clear D; clear B; clear C4; have D := n0_; have B := n1_; have C4 := n2_; clear n0_ n1_ n2_; clear hb))
  obtain ⟨g1, hg1⟩ : ∃ g_, g_ = wz_.heap.size := ⟨_, rfl⟩
  obtain ⟨W2, hW2⟩ : ∃ W_, W_ = wz_.alloc (.cells (ten z0 z1 z2 z3 z4 z5 z6 z7 z8 z9) 24) := ⟨_, rfl⟩
  rw [← hW2, ← hg1]
  have E := Aside0.mk (show Box w W2 g1 (ten z0 z1 z2 z3 z4 z5 z6 z7 z8 z9) by rw [hW2, hg1]; exact Box.fresh D.out _)
  have B' := Aside0.mk (show OwB w W2 A4 M by rw [hW2]; exact B.out.then_ (below_alloc (Below.refl _ _) _))
  have C4' := Aside0.mk (show Kd.C (Kd.int .u8) W2 A4 M b by rw [hW2]; exact Kd.C_alloc C4.out _)
  have D' := Aside0.mk (show Below w.heap.size w W2 by rw [hW2]; exact below_alloc D.out _)
  clear hW2 hg1 B C4 D
  have B := B'
  clear B'
  have C4 := C4'
  clear C4'
  have D := D'
  clear D'
  have v0 := str_of (Kd.C_below HCB.out D.out) c1 0
  simp only [World.drewN_zero] at v0
  rw [HS.out] at v0
  go_upto_region 6 with (first | ((with_reducible refine gate_dst (N := 31) rfl ?_); (with_reducible refine gate_callee (f := 18) rfl ?_); refine goesL_ (some 31) rfl rfl Tryd.func18 (by kernel_rfl) rfl #[.string S] rfl (by (try simp only [List.map_toArray, List.map_cons, List.map_nil]); first | done | rfl) ?_; refine (HR.out _).mono ?_; rintro e wz_ ⟨rfl, hb⟩; refine ⟨_, rfl, ?_⟩; have n0_ := Aside0.mk (below_step D.out hb); have n1_ := Aside0.mk (B.out.then_ hb); have n2_ := Aside0.mk (Kd.C_below C4.out hb); have n3_ := Aside0.mk (E.out.then_ hb); clear D; clear B; clear C4; clear E; have D := n0_; have B := n1_; have C4 := n2_; have E := n3_; clear n0_ n1_ n2_ n3_; clear hb))
  clear v0
  obtain ⟨g2, hg2⟩ : ∃ g_, g_ = wz_.heap.size := ⟨_, rfl⟩
  obtain ⟨W3, hW3⟩ : ∃ W_, W_ = wz_.alloc (.cells (ten z0 z1 z2 z3 z4 z5 z6 z7 z8 z9) 24) := ⟨_, rfl⟩
  rw [← hW3, ← hg2]
  have F := Aside0.mk (show Box w W3 g2 (ten z0 z1 z2 z3 z4 z5 z6 z7 z8 z9) by rw [hW3, hg2]; exact Box.fresh D.out _)
  have B' := Aside0.mk (show OwB w W3 A4 M by rw [hW3]; exact B.out.then_ (below_alloc (Below.refl _ _) _))
  have C4' := Aside0.mk (show Kd.C (Kd.int .u8) W3 A4 M b by rw [hW3]; exact Kd.C_alloc C4.out _)
  have E' := Aside0.mk (show Box w W3 g1 (ten z0 z1 z2 z3 z4 z5 z6 z7 z8 z9) by rw [hW3]; exact E.out.alloc _)
  have D' := Aside0.mk (show Below w.heap.size w W3 by rw [hW3]; exact below_alloc D.out _)
  clear hW3 hg2 B C4 E D
  have B := B'
  clear B'
  have C4 := C4'
  clear C4'
  have E := E'
  clear E'
  have D := D'
  clear D'
  have v0 := str_of (Kd.C_below HCB.out D.out) c1 0
  have v1 := str_of C4.out c4 0
  simp only [World.drewN_zero] at v0 v1
  go_upto_region 7 with (fail)
  clear v0 v1 C4
  go_wp2_with (fail)
  go_loopg [12] M (fun m v12 w' => ∃ i : Nat, v12 = .int .i64 (i : Int) ∧ i + m = M ∧ Aside0 (Below w.heap.size w w') ∧ Aside0 (Box w w' g1 (ten z0 z1 z2 z3 z4 z5 z6 z7 z8 z9)) ∧ Aside0 (Box w w' g2 (ten z0 z1 z2 z3 z4 z5 z6 z7 z8 z9)) ∧ Aside0 (OwB w w' A4 M))
  case atStart => exact ⟨0, rfl, by omega, D, E, F, B⟩
  case round =>
    clear D E F B
    obtain ⟨i, rfl, hm, D, E, F, B⟩ := hrel
    by_cases hi : i < M
    · obtain ⟨g, cs, hA, hg1, hg2, hg3⟩ := B.out (by omega)
      subst hA
      have hiM : (i : Int) < (M : Int) := by omega
      obtain ⟨y, hy⟩ : ∃ y, cs[i]? = some y := ⟨_, Array.getElem?_eq_getElem (by omega)⟩
      have x_ : wr.cell? ⟨g, i, none⟩ = some y := by rw [cell_of_row _ _ _ _ _ _ hg2]; exact hy
      clear hy
      have f_ := blk_frozen hg2 i
      have HG1 := Aside0.mk hg1
      have HG2 := Aside0.mk hg2
      have HG3 := Aside0.mk hg3
      clear hg1 hg2 hg3
      go_wp2
      go_roundg (gk - 1)
      case measure => omega
      case rel => exact ⟨i + 1, by go_num, by omega, ⟨D.out.setCell HG1.out _⟩, ⟨E.out.far (blk_ne E.out.blk HG2.out (by decide)) _ _⟩, ⟨F.out.far (blk_ne F.out.blk HG2.out (by decide)) _ _⟩, ⟨OwB.put rfl HG1.out HG2.out HG3.out _⟩⟩
    · obtain rfl : i = M := by omega
      obtain ⟨e0, e1, e2, e3, e4, e5, e6, e7, e8, e9⟩ := E.out.read
      obtain ⟨f0, f1, f2, f3, f4, f5, f6, f7, f8, f9⟩ := F.out.read
      go_wp2
      go_ret
      exact ⟨rfl, D.out⟩
end Go.Proofs.YtmlhlcdamppbfaaDoor.Xa
namespace Go.Proofs.YtmlhlcdamppbfaaDoor.Pure
open Go.RowKit Go.Proofs.YtmlhlcdamppbfaaDoor.Xa Go.Proofs.YtmlhlcdamppbfaaDoor.Ext Go.Proofs.YtmlhlcdamppbfaaDoorW.PrintWords Go.Proofs.YtmlhlcdamppbfaaDoorW.PrintLast
set_option linter.unusedVariables false
set_option linter.unusedSimpArgs false
theorem endF_bad' {n : Nat} {p e : Int} (h : e ≠ 0) : endF n (p, e) = (p, e) := endF_bad (s := (p, e)) h
theorem chN_skip' (l : List Int) (k p e : Int) (h : e ≠ 0) (j : Nat) : (chN l k (p, e) j).2 = (p, e) := chN_skip l k (p, e) h j
/-- What event.Decode answers. -/
abbrev Same (s : ByteArray) (b : List Int) (w : World) : Prop := Calls Tryd.prog 18 #[.string s] w fun e w' => e = .returned (.tuple #[.agg (decC b), .int .i64 (stopF b).1, .int .i64 (stopF b).2]) ∧ Below w.heap.size w w'
theorem same_bad {s : ByteArray} {b : List Int} {w : World} {at_ er : Int} (h : stopF b = (at_, er)) (he : er ≠ 0)
    (hc : Calls Tryd.prog 18 #[.string s] w fun e w' => e = .returned (.tuple #[.agg (ten 0 0 0 E0 E0 E0 E0 0 0 0), .int .i64 at_, .int .i64 er]) ∧ Below w.heap.size w w') : Same s b w := by
  unfold Same
  rw [decC_bad (by rw [h]; exact he), h]
  exact hc
/-- The numbers and the end, of a kind whose numbers are bytes. -/
theorem ends {b : List Int} {c t1 id : Int} {P2 : Nat} (hb : Bytes b) (hn : b.length ≤ 6000) (hP : P2 ≤ b.length) (hst : startF b = (c, t1, id, (P2 : Int), 0)) (T : Nat) (hT : (T : Int) = T0 c) :
    (∀ i, i < T → tE b P2 i ≠ 0 → (∀ j, j < i → tE b P2 j = 0) → stopF b = ((tQ b P2 (i + 1) : Int), tE b P2 i)) ∧
    ((∀ j, j < T → tE b P2 j = 0) → stopF b = endF b.length (chN b c ((tQ b P2 T : Int), 0) 3).2 ∧ ((stopF b).2 = 0 → decC b = ten c t1 id (tx (tV b P2) T 0) (tx (tV b P2) T 1) (tx (tV b P2) T 2) (tx (tV b P2) T 3) (num b c ((tQ b P2 T : Int), 0) 3 0) (num b c ((tQ b P2 T : Int), 0) 3 1) (num b c ((tQ b P2 T : Int), 0) 3 2))) := by
  have hTn : (T0 c).toNat = T := by omega
  have hs := stop_s hst
  rw [hTn] at hs
  constructor
  · intro i hi he h0
    have h1 := chT_bad hb hn i h0 (P := P2)
    have h2 := chT_skip b ((P2 : Int), 0) (i + 1) (by rw [h1]; exact he) (T - (i + 1))
    rw [show i + 1 + (T - (i + 1)) = T by omega, h1] at h2
    rw [hs, h2, chN_skip' _ _ _ _ he, endF_bad' he]
  · intro h0
    have h1 := chT_ok hb hn T h0 (P := P2)
    have hx : ∀ k, txt b ((P2 : Int), 0) T k = tx (tV b P2) T k := fun k => by
      unfold txt tx
      by_cases hk : k < T
      · rw [if_pos hk, if_pos hk, chT_val hb hn k (fun j hj => h0 j (by omega))]
      · rw [if_neg hk, if_neg hk]
    rw [h1] at hs
    refine ⟨hs, fun hz => ?_⟩
    rw [decC_s hst hz, hTn, h1, hx, hx, hx, hx]
set_option maxRecDepth 10000 in
theorem ref_cons (b : List Int) (c : Int) (r : List Int) (hbe : b = c :: r) (s : ByteArray) (hs : s = strOfNums b) (hb : Bytes b) (hn : b.length ≤ 6000) (w : World) : Same s b w := by
  have hsz : s.size = b.length := by rw [hs]; exact strOf_size _
  have hlen : 0 < b.length := by rw [hbe]; simp
  have hcb := hb c (by rw [hbe]; simp)
  have h0 : s.toList.isEmpty = false := by
    rw [hs, hbe, ByteArray.toList_eq]; simp [strOfNums]
  have hc : ∀ h : 0 < s.size, ((s[0]'h).toNat : Int) = c := fun h => by
    have h1 := bt_at s 0 h
    have h2 : bt s 0 = c := by rw [hs, hbe]; exact bt_str (c :: r) (by rw [← hbe]; exact hb) 0 (by simp)
    exact h1.trans h2
  have hz : 0 < s.size := by omega
  have hmx : s.size ≤ 100000 := by omega
  by_cases hk : 1 ≤ c ∧ c ≤ 14
  · obtain ⟨K, rfl⟩ := Int.eq_ofNat_of_zero_le hcb.1
    have hK1 : 1 ≤ K := by omega
    have hK2 : K ≤ 14 := by omega
    have hkF : kindF b = ((K : Int), 1, 0) := by rw [hbe]; exact kind_good hk.1 hk.2
    have hsh := shape_k 10000 K (by omega) hK1 hK2
    have hspl := split_k 10000 K (by omega) hK1 hK2
    have hne : ((shp.getD K ⟨#[]⟩).toList == ([45] : List UInt8)) = false := by
      rw [beq_eq_false_iff_ne, ByteArray.toList_eq]; exact shape_dash ⟨K, by omega⟩ hK1
    have get : ∀ q, q ≤ b.length → transeptref01_Get.f 10000 (s.extract q s.size) = some (gl 0 0 (b.drop q)) := fun q hq => by
      rw [hs, cut_end]; exact ref_get _ (hb.drop _) (by rw [List.length_drop]; omega) _ (by rw [List.length_drop]; omega)
    -- the time
    have r1 := gl_range (b.drop 1)
    rw [List.length_drop] at r1
    obtain ⟨t1, p, e1, hg⟩ : ∃ t p e, gl 0 0 (b.drop 1) = (t, p, e) := ⟨_, _, _, rfl⟩
    rw [hg] at r1
    obtain ⟨p1, rfl⟩ := Int.eq_ofNat_of_zero_le r1.1
    obtain ⟨P, hP⟩ : ∃ P : Nat, P = 1 + p1 := ⟨_, rfl⟩
    have hPi : (1 : Int) + (p1 : Int) = (P : Int) := by omega
    have hPb : P ≤ b.length := by have h_ : (p1 : Int) ≤ ((b.length - 1 : Nat) : Int) := r1.2; omega
    have hg1 := get 1 (by omega)
    rw [hg] at hg1
    by_cases he1 : e1 = 0
    · subst he1
      have hst1 := start_t hkF hg hPi
      obtain ⟨x1, hx1⟩ : ∃ x, x = bt s (P : Int) := ⟨_, rfl⟩
      have hx1' : ∀ h : P < s.size, ((s[P]'h).toNat : Int) = x1 := fun h => by rw [hx1]; exact bt_at s (P : Int) h
      have hx1b : ∀ h : P < b.length, b[P] = x1 := fun h => by rw [hx1, hs]; exact (bt_str b hb P h).symm
      obtain ⟨al, hal⟩ : ∃ al, (decide ((K : Int) = 1) || decide ((K : Int) = 2)) = al := ⟨_, rfl⟩
      have hal' : ((K : Int) = 1 ∨ (K : Int) = 2) ↔ al = true := by rw [← hal]; simp
      have hPs : P ≤ s.size := by omega
      by_cases hx : P < s.size ∧ (al != (x1 == 0)) = true
      · have hl : P < b.length := by omega
        have hi := id_bad hb (K : Int) P hl (by
          rw [hx1b hl, hal']
          have := hx.2
          intro hh
          cases al
          · have : x1 = 0 := by simpa using this
            exact absurd (hh.2 this) (by decide)
          · have h3 : ¬ x1 = 0 := by simpa using this
            exact h3 (hh.1 rfl))
        have hst2 : startF b = ((K : Int), t1, (idF (K : Int) b (P : Int) 0).1, (P : Int), 3) := by rw [hst1, ← hi]
        exact same_bad (stop_start hst2 (by decide)) (by decide) (dec_alone s (K : Int) 10000 h0 hz hmx hc hcb.1 hcb.2 _ hsh hne t1 p1 P hg1 hPi hPs al hal x1 hx1' hx.1 hx.2 w)
      · have hpass : P < s.size → (al != (x1 == 0)) = false := fun h => by
          cases hv : (al != (x1 == 0)) with
          | false => rfl
          | true => exact absurd ⟨h, hv⟩ hx
        have hi := id_pass hb (K : Int) P hPb (fun h => by
          have h2 := hpass (by omega)
          rw [hx1b h, hal']
          cases al
          · have h3 : ¬ x1 = 0 := by simpa using h2
            exact ⟨fun z => absurd z (by decide), fun z => absurd z h3⟩
          · have h3 : x1 = 0 := by simpa using h2
            exact ⟨fun _ => h3, fun _ => rfl⟩)
        have r2 := gl_range (b.drop P)
        rw [List.length_drop] at r2
        obtain ⟨id, q, e2, hgi⟩ : ∃ t p e, gl 0 0 (b.drop P) = (t, p, e) := ⟨_, _, _, rfl⟩
        rw [hgi] at r2
        obtain ⟨k2, rfl⟩ := Int.eq_ofNat_of_zero_le r2.1
        obtain ⟨P2, hP2⟩ : ∃ P2 : Nat, P2 = P + k2 := ⟨_, rfl⟩
        have hP2i : (P : Int) + (k2 : Int) = (P2 : Int) := by omega
        have hP2b : P2 ≤ b.length := by have h_ : (k2 : Int) ≤ ((b.length - P : Nat) : Int) := r2.2; omega
        have hP2s : P2 ≤ s.size := by omega
        have hg2 := get P hPb
        rw [hgi] at hg2
        obtain ⟨v, hst2, hv⟩ := start_i hst1 hi hgi hP2i
        by_cases he2 : e2 = 0
        · subst he2
          obtain rfl := hv rfl
          -- the texts
          obtain ⟨T, hT⟩ : ∃ T : Nat, (T : Int) = T0 (K : Int) := by
            rcases T0_cases (K : Int) with e | e | e | e <;> rw [e]
            · exact ⟨0, rfl⟩
            · exact ⟨1, rfl⟩
            · exact ⟨2, rfl⟩
            · exact ⟨4, rfl⟩
          have hT4 : T ≤ 4 := by rcases T0_cases (K : Int) with e | e | e | e <;> omega
          rw [← hT] at hspl
          obtain ⟨n1, n2⟩ := ends hb hn hP2b hst2 T hT
          have hQ := tQ_le hb hn hP2b
          have hTX : ∀ i, i < T → transeptref01_Text.f 10000 (s.extract (tQ b P2 i) s.size) 4096 = some (tV b P2 i, (tX b P2 i : Int), tE b P2 i) ∧ (tQ b P2 i : Int) + (tX b P2 i : Int) = (tQ b P2 (i + 1) : Int) ∧ tQ b P2 i ≤ s.size ∧ tQ b P2 (i + 1) ≤ s.size := fun i hi => by
            refine ⟨?_, tQ_step i, ?_, ?_⟩
            · rw [hs]; exact ref_txt hb hn i
            · rw [hsz]; exact hQ i
            · rw [hsz]; exact hQ (i + 1)
          have hXT : ∀ i, i < T → tE b P2 i ≠ 0 → (∀ j, j < i → tE b P2 j = 0) → decC b = (ten 0 0 0 E0 E0 E0 E0 0 0 0) ∧ (stopF b).1 = (tQ b P2 (i + 1) : Int) ∧ (stopF b).2 = tE b P2 i := fun i hi he hj => by
            have h := n1 i hi he hj
            exact ⟨decC_bad (by rw [h]; exact he), by rw [h], by rw [h]⟩
          have hQT := hQ T
          have bv := fun (m : Int) (q : Nat) => bound_val m (b.drop q) (hb.drop q)
          obtain ⟨Q, hQe⟩ : ∃ Q, Q = tQ b P2 T := ⟨_, rfl⟩
          rw [← hQe] at n2 hQT
          by_cases hst : K = 7 ∨ K = 10
          · -- a status
            obtain ⟨l1, l2, l3, l4, l5⟩ := let_stat ⟨K, by omega⟩ hst
            simp only [] at l1 l2 l3 l4 l5
            have hB := below_status b Q
            have hc1 : chN b (K : Int) ((Q : Int), 0) 1 = belowF 1000 b (Q : Int) 0 := by
              show (if 0 < TN (K : Int) 0 then belowF (TN (K : Int) 0) b (Q : Int) 0 else _) = _
              rw [if_pos (by omega), l3]
            have hc3 : (chN b (K : Int) ((Q : Int), 0) 3).2 = (chN b (K : Int) ((Q : Int), 0) 1).2 := chN_rest b (K : Int) _ 1 (fun j h1 h2 => by
              have : j = 1 ∨ j = 2 := by omega
              rcases this with rfl | rfl
              · exact l4
              · exact l5) 2 (by omega)
            obtain ⟨XH, hXH⟩ : ∃ x, x = (boundF 3 (b.drop Q)).1 := ⟨_, rfl⟩
            obtain ⟨FH, hFH⟩ : ∃ x, x = (boundF 3 (b.drop Q)).2.2 := ⟨_, rfl⟩
            obtain ⟨MM, hMM⟩ : ∃ x : Int, x = (if XH = 3 then 231 else 255) := ⟨_, rfl⟩
            obtain ⟨XL, hXL⟩ : ∃ x, x = (boundF MM (b.drop (Q + 1))).1 := ⟨_, rfl⟩
            obtain ⟨FL, hFL⟩ : ∃ x, x = (boundF MM (b.drop (Q + 1))).2.2 := ⟨_, rfl⟩
            rw [← hXH, ← hMM, ← hFH, ← hXL, ← hFL] at hB
            have v1 := bv 3 Q
            have v2 := bv MM (Q + 1)
            have v3 := bound_le 3 (b.drop Q)
            rw [← hXH] at v1 v3
            rw [← hXL] at v2
            rw [← hFH] at v3
            have num0 : num b (K : Int) ((Q : Int), 0) 3 0 = (belowF 1000 b (Q : Int) 0).1 := by
              unfold num; rw [if_pos (by omega), hc1]
            have num1 : num b (K : Int) ((Q : Int), 0) 3 1 = 0 := by
              unfold num; rw [if_pos (by omega)]; exact chN_none _ _ _ 1 l4
            have num2 : num b (K : Int) ((Q : Int), 0) 3 2 = 0 := by
              unfold num; rw [if_pos (by omega)]; exact chN_none _ _ _ 2 l5
            refine dec_status s (K : Int) 10000 h0 hz hmx hc hcb.1 hcb.2 _ hsh hne t1 p1 P hg1 hPi hPs al hal x1 hx1' v k2 P2 hpass hg2 hP2i hP2s T _ hspl (tV b P2) (tQ b P2) (tX b P2) (tE b P2) rfl hT4 hTX (decC b) (stopF b).1 (stopF b).2 hXT
              (fun j => Q + 2 * j) (fun _ => XH * 256 + XL) (Q + 1) XH FH XL FL MM l1 (by simp only [Nat.mul_zero, Nat.add_zero]; exact hQe) (by omega) (by omega) (by omega) ⟨?_, ?_, ?_⟩ ?_ ?_ ?_ w
            · rw [hXH, hFH, hs]; exact ref_bnd b hb Q (by omega) 3
            · intro h; rw [← l2]; exact bt_at _ 0 h
            · intro hf
              have v3' := v3 hf
              refine ⟨?_, v1.1, v3', v2.1, v2.2, ?_, rfl⟩
              · rw [hXL, hFL, hs]; exact ref_bnd b hb (Q + 1) (by omega) MM
              · rw [hMM]
                by_cases hx3 : XH = 3
                · rw [hx3]; decide
                · rw [if_neg hx3, if_neg (by omega)]
            · intro hE hf
              obtain ⟨q1, _⟩ := n2 hE
              rw [hc3, hc1, hB, if_neg hf, endF_bad' hf] at q1
              exact ⟨decC_bad (by rw [q1]; exact hf), by rw [q1]; rfl, by rw [q1]⟩
            · intro hE hf hf2
              obtain ⟨q1, _⟩ := n2 hE
              rw [hc3, hc1, hB, if_pos hf, if_neg hf2, endF_bad' hf2] at q1
              exact ⟨decC_bad (by rw [q1]; exact hf2), by rw [q1], by rw [q1]⟩
            · intro hE hf
              obtain ⟨q1, q2⟩ := n2 hE
              rw [hc3, hc1, hB, if_pos hf.1, if_pos hf.2] at q1
              rw [hB, if_pos hf.1, if_pos hf.2] at num0
              rw [l1]
              simp only [Nat.mul_one]
              constructor
              · intro hlt
                unfold endF at q1
                rw [if_pos ⟨rfl, by show ((Q + 2 : Nat) : Int) < _; omega⟩] at q1
                exact ⟨decC_bad (by rw [q1]; show (8 : Int) ≠ 0; decide), by rw [q1], by rw [q1]⟩
              · intro hlt
                unfold endF at q1
                rw [if_neg (fun z => hlt (by have h_ : ((Q + 2 : Nat) : Int) < _ := z.2; omega))] at q1
                refine ⟨?_, by rw [q1], by rw [q1]⟩
                rw [q2 (by rw [q1]), num0, num1, num2]
                simp [nm]
          · -- bytes
            have hK7 : K ≠ 7 := fun h => hst (.inl h)
            have hK10 : K ≠ 10 := fun h => hst (.inr h)
            obtain ⟨Lt, hLt⟩ : ∃ L, L = lets.getD K ⟨#[]⟩ := ⟨_, rfl⟩
            have hL3 := let_size ⟨K, by omega⟩
            have tab := let_tab ⟨K, by omega⟩ hK7 hK10
            have non := let_none ⟨K, by omega⟩
            simp only [← hLt] at hL3 tab non
            rw [← hLt] at hspl
            obtain ⟨N, hN⟩ : ∃ N, N = Lt.size := ⟨_, rfl⟩
            have tab' : ∀ j, j < N → transeptref05_most.f (bt Lt (j : Int)) = some (TN (K : Int) j - 1) ∧ (bt Lt (j : Int) == 115) = false ∧ 0 < TN (K : Int) j ∧ TN (K : Int) j ≤ 256 := fun j hj => tab ⟨j, by omega⟩ (by simp only []; omega)
            have non' : ∀ j, N ≤ j → j < 3 → TN (K : Int) j ≤ 0 := fun j h1 h2 => non ⟨j, h2⟩ (by simp only []; omega)
            have hTp : ∀ j, j < N → 0 < TN (K : Int) j ∧ TN (K : Int) j ≤ 256 := fun j hj => (tab' j hj).2.2
            have hc3 : (chN b (K : Int) ((Q : Int), 0) 3).2 = (chN b (K : Int) ((Q : Int), 0) N).2 := by
              have := chN_rest b (K : Int) ((Q : Int), 0) N non' (3 - N) (by omega)
              rwa [show N + (3 - N) = 3 by omega] at this
            obtain ⟨Y, hY⟩ : ∃ Y : Nat → Int, ∀ j, Y j = (boundF (TN (K : Int) j - 1) (b.drop (Q + j))).1 := ⟨fun j => _, fun j => rfl⟩
            obtain ⟨F, hF⟩ : ∃ F : Nat → Int, ∀ j, F j = (boundF (TN (K : Int) j - 1) (b.drop (Q + j))).2.2 := ⟨fun j => _, fun j => rfl⟩
            refine dec_texts s (K : Int) 10000 h0 hz hmx hc hcb.1 hcb.2 _ hsh hne t1 p1 P hg1 hPi hPs al hal x1 hx1' v k2 P2 hpass hg2 hP2i hP2s T Lt hspl (tV b P2) (tQ b P2) (tX b P2) (tE b P2) rfl hT4 hTX (decC b) (stopF b).1 (stopF b).2 hXT
              (fun j => Q + j) (fun j => bt Lt (j : Int)) (fun j => TN (K : Int) j - 1) Y F hL3 (by simp only [Nat.add_zero]; exact hQe) (fun j hj => ?_) ?_ ?_ w
            · obtain ⟨m1, m2, m3, m4⟩ := tab' j (by omega)
              have vb := bv (TN (K : Int) j - 1) (Q + j)
              rw [← hY] at vb
              refine ⟨m1, ?_, by omega, fun h => bt_at Lt (j : Int) h, m2, w64 _ (by omega) (by omega), by omega⟩
              rw [hY, hF, hs]; exact ref_bnd b hb (Q + j) (by omega) _
            · intro hE i hi hf hj
              obtain ⟨q1, _⟩ := n2 hE
              have hf' := hf
              rw [hF] at hf'
              have e1 := chN_bad b (K : Int) Q N hTp i (by omega) (fun k hk => by rw [← hF]; exact hj k hk) hf'
              have e2 := chN_stay b (K : Int) ((Q : Int), 0) (i + 1) (by rw [e1]; exact hf') (2 - i)
              rw [show i + 1 + (2 - i) = 3 by omega, e1] at e2
              rw [e2, endF_bad' hf', ← hF] at q1
              exact ⟨decC_bad (by rw [q1]; exact hf), by rw [q1], by rw [q1]⟩
            · intro hE hj
              obtain ⟨q1, q2⟩ := n2 hE
              have hj' : ∀ k, k < N → (boundF (TN (K : Int) k - 1) (b.drop (Q + k))).2.2 = 0 := fun k hk => by rw [← hF]; exact hj k (by omega)
              have e1 := chN_ok b (K : Int) Q N hTp N (Nat.le_refl _) hj'
              rw [hc3, e1] at q1
              have hnum : ∀ k, k < 3 → num b (K : Int) ((Q : Int), 0) 3 k = nm Y N k := fun k hk => by
                unfold num nm
                rw [if_pos hk]
                by_cases hkN : k < N
                · rw [if_pos hkN, hY, chN_val b (K : Int) Q N hTp k hkN (fun j hj2 => hj' j (by omega))]
                · rw [if_neg hkN]; exact chN_none _ _ _ k (non' k (by omega) hk)
              rw [← hN]
              constructor
              · intro hlt
                unfold endF at q1
                rw [if_pos ⟨rfl, by show ((Q + N : Nat) : Int) < _; omega⟩] at q1
                exact ⟨decC_bad (by rw [q1]; show (8 : Int) ≠ 0; decide), by rw [q1], by rw [q1]⟩
              · intro hlt
                unfold endF at q1
                rw [if_neg (fun z => hlt (by have h_ : ((Q + N : Nat) : Int) < _ := z.2; omega))] at q1
                refine ⟨?_, by rw [q1], by rw [q1]⟩
                rw [q2 (by rw [q1]), hnum 0 (by omega), hnum 1 (by omega), hnum 2 (by omega)]
        · exact same_bad (stop_start hst2 he2) he2 (dec_id s (K : Int) 10000 h0 hz hmx hc hcb.1 hcb.2 _ hsh hne t1 p1 P hg1 hPi hPs al hal x1 hx1' id e2 k2 P2 hpass hg2 hP2i hP2s (by simpa using he2) w)
    · exact same_bad (stop_time hkF (by rw [hg]) hPi (by rw [hg]) he1) he1 (dec_time s (K : Int) 10000 h0 hz hmx hc hcb.1 hcb.2 _ hsh hne t1 e1 p1 P hPi hg1 (by omega) (by simpa using he1) w)
  · have hkb := kind_bad (r := r) hk hcb.1
    rw [← hbe] at hkb
    exact same_bad ((stop_kind (by rw [hkb]; decide)).trans hkb) (by decide) (dec_kind s c 10000 h0 hz hmx hc hcb.1 hcb.2 (shape_no 9997 c hk) w)
theorem ref_dec (b : List Int) (hb : Bytes b) (hn : b.length ≤ 6000) (w : World) : Same (strOfNums b) b w := by
  cases b with
  | nil => exact same_bad (show stopF [] = (0, 2) by decide +kernel) (by decide) (dec_empty _ (by rw [ByteArray.toList_eq]; rfl) w)
  | cons c r => exact ref_cons (c :: r) c r rfl _ rfl hb hn w
end Go.Proofs.YtmlhlcdamppbfaaDoor.Pure
namespace Go.Proofs.YtmlhlcdamppbfaaDoor.Xa
open Go.RowKit Go.Proofs.YtmlhlcdamppbfaaDoor.Ext Go.Proofs.YtmlhlcdamppbfaaDoor.Pure Go.Proofs.YtmlhlcdamppbfaaDoorW.PrintWords Go.Proofs.YtmlhlcdamppbfaaDoorW.PrintLast Go.Proofs.YtmlhlcdamppbfaaDoorW.PrintMore
set_option linter.unusedVariables false
def transeptlaw05_EventReads.Pure : Prop := True
theorem transeptlaw05_EventReads.walk (P : transeptlaw05_EventReads.Pure) (a0 : Option Addr) (len0 cap0 : Nat) (z0 : List Int) (w : World) (hG : Glob w) (w0 : (a0 = none ∧ len0 = 0 ∧ cap0 = 0 ∧ z0 = []) ∨ ∃ x, a0 = some x ∧ len0 ≤ cap0 ∧ cap0 ≤ maxLen ∧ z0.length = cap0 ∧ (∀ i, i < z0.length → w.cell? (x.add i) = some (.int .u8 (z0.getD i 0))) ∧ ∀ n ∈ z0, (Lit.int .u8 n).wf = true) (y0 : len0 * 1 ≤ 140737488351232) :
    Calls Tryd.prog 4 #[.slice a0 len0 cap0] w fun e w' => e = .returned (.bool true) ∧ Below w.heap.size w w' := by
  obtain ⟨l0, rfl, hr0, hm0, hw0, hc0⟩ := ReadsInt.ofRowC w0
  have hl : Bytes l0 := fun x hx => u8_bounds (hw0 x hx)
  obtain ⟨M, hM⟩ : ∃ M : Nat, M = if 6000 < l0.length then 6000 else l0.length := ⟨_, rfl⟩
  have hM1 : M ≤ l0.length := by rw [hM]; split <;> omega
  have hM6 : M ≤ 6000 := by rw [hM]; split <;> omega
  have hmin : (if 6000 < (l0.length : Int) then 6000 else (l0.length : Int)) = (M : Int) := by
    rw [hM]
    by_cases h : 6000 < l0.length
    · rw [if_pos h, if_pos (by omega)]; rfl
    · rw [if_neg h, if_neg (by omega)]
  obtain ⟨b, hb⟩ : ∃ b, b = l0.take M := ⟨_, rfl⟩
  have hbl : b.length = M := by rw [hb, List.length_take]; omega
  have hbb : Bytes b := by rw [hb]; exact hl.take M
  have hC : Kd.C (Kd.int .u8) w a0 M b := by rw [hb]; exact cut_C (Kd.C_of_reads (d := (0 : Int)) (h1 := fun _ => rfl) hr0) M hM1
  have hR := fun w => ref_dec b hbb (by omega) w
  unfold Same at hR
  rw [dec_is hbb, stop_is hbb] at hR
  exact reads_walk _ _ _ _ _ _ _ _ _ _ _ _ a0 cap0 M l0 b (strOfNums b) hmin hM1 hM6 hc0 hbl w hC hG rfl (decode_f hbb (by omega)) hR
end Go.Proofs.YtmlhlcdamppbfaaDoor.Xa
namespace Go.Proofs.YtmlhlcdamppbfaaDoor.Pure
theorem EventReads : Xa.transeptlaw05_EventReads.Pure := trivial
end Go.Proofs.YtmlhlcdamppbfaaDoor.Pure
