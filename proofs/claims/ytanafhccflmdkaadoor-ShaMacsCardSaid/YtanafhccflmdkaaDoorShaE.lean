/- Keys and tags. -/
import Derived.Test.YtanafhccflmdkaaDoorShaD
import Derived.Deep.RegionLaw
namespace Go.Proofs.YtanafhccflmdkaaDoor.Ext
open Go.RowKit Go.Proofs.YtanafhccflmdkaaDoorW.PrintWords Go.Proofs.YtanafhccflmdkaaDoorW.PrintLast Go.Proofs.YtanafhccflmdkaaDoorW.PrintMore
set_option linter.unusedVariables false
set_option linter.unusedSimpArgs false
attribute [local go_sem] max2_int min2_int max_two min_two
def pk (k : List Int) (c : Int) (j : Nat) : List Int := (List.range 64).map fun i => if i < j then xorI (k.getD i 0) c else k.getD i 0
theorem pk_len (k : List Int) (c : Int) (j : Nat) : (pk k c j).length = 64 := by unfold pk; simp
theorem pk_at (k : List Int) (c : Int) (j i : Nat) (h : i < 64) : (pk k c j)[i]? = some (if i < j then xorI (k.getD i 0) c else k.getD i 0) := by
  unfold pk; simp [h]
theorem pk_zero (k : List Int) (c : Int) (Z : List Int) (hZ : Z = List.replicate 64 0) : k.take (min k.length Z.length) ++ Z.drop (min k.length Z.length) = pk k c 0 := by
  have hl : Z.length = 64 := by rw [hZ, List.length_replicate]
  apply List.ext_getElem?
  intro i
  by_cases hi : i < 64
  · rw [pk_at k c 0 i hi, if_neg (by omega)]
    by_cases h : i < k.length
    · rw [List.getElem?_append_left (by rw [List.length_take]; omega), List.getElem?_take_of_lt (by omega), List.getD_eq_getElem?_getD, List.getElem?_eq_getElem h]; rfl
    · rw [List.getElem?_append_right (by rw [List.length_take]; omega), List.getElem?_drop, List.length_take, hZ, List.getElem?_replicate, List.length_replicate, if_pos (by omega), List.getD_eq_getElem?_getD, List.getElem?_eq_none (by omega)]; rfl
  · rw [List.getElem?_eq_none (by rw [List.length_append, List.length_take, List.length_drop]; omega), List.getElem?_eq_none (by rw [pk_len]; omega)]
theorem pk_get (k : List Int) (c : Int) (j : Nat) (h : j < 64) : rd (pk k c j) (j : Int) = k.getD j 0 := by
  unfold rd
  rw [Int.toNat_natCast, List.getD_eq_getElem?_getD, pk_at k c j j h, if_neg (by omega)]; rfl
theorem pk_set (k : List Int) (c : Int) (j : Nat) (h : j < 64) : (pk k c j).set j (xorI (k.getD j 0) c) = pk k c (j + 1) := by
  apply List.ext_getElem?
  intro i
  by_cases hi : i < 64
  · rw [pk_at k c (j + 1) i hi]
    by_cases hij : j = i
    · subst hij
      rw [List.getElem?_set_self (by rw [pk_len]; exact h), if_pos (by omega)]
    · rw [List.getElem?_set_ne hij, pk_at k c j i hi]
      by_cases h2 : i < j
      · rw [if_pos h2, if_pos (by omega)]
      · rw [if_neg h2, if_neg (by omega)]
  · rw [List.getElem?_eq_none (by rw [List.length_set, pk_len]; omega), List.getElem?_eq_none (by rw [pk_len]; omega)]
theorem pk_end (k : List Int) (c : Int) : pk k c 64 = padK k c := by
  unfold pk padK
  apply List.map_congr_left
  intro i hi
  rw [if_pos (List.mem_range.1 hi)]
set_option maxHeartbeats 4000000 in
set_option maxRecDepth 100000 in
theorem padded_calls (A : Option Addr) (ck : Nat) (k : List Int) (c : Int) (w : World) (hC : Kd.C (Kd.int .u8) w A k.length k) :
    Calls Tryd.prog 20 #[.slice A k.length ck, .int .u8 c] w fun e w' => ∃ (A' : Option Addr) (c' : Nat), e = .returned (.slice A' 64 c') ∧ 64 ≤ c' ∧ Kd.C (Kd.int .u8) w' A' (padK k c).length (padK k c) ∧ Below w.heap.size w w' := by
  have HC := Aside0.mk hC
  clear hC
  go_enter Tryd.func20, Tryd.ntmps20
  go_wp2_with (first | ((with_reducible refine gate_dst (N := 7) rfl ?_); refine Kd.R_make (Kd.int .u8) (w0 := w) w.heap.size 5 rfl (N := 7) rfl 22 _ _ rfl 64 rfl rfl Tryd.underlying22 (.int .u8 0) 1 info5 rfl (by decide) (by decide) 0 (ok := fun _ => True) (okp := fun _ => False) rfl (fun _ _ => trivial) trivial (by omega) (by decide) (Below.refl _ _) (Nat.le_refl _) ?_; intro v1 w3 hv1 hb3 hg3 _; obtain ⟨gr, cap, rfl, hgr, _, _⟩ := Kd.R_form hv1 (by decide); have HGR := Aside0.mk hgr; have HV3 := Aside0.mk hv1; have HB3 := Aside0.mk hb3; clear hv1 hb3 hg3) | ((with_reducible refine gate_dst (N := 10) rfl ?_); refine Kd.R_copy (0 : Int) (w0 := w) w.heap.size rfl (.tmp 8) (.tmp 9) 22 22 5 rfl Tryd.underlying22 size5 (.slice (some ⟨gr, 0, none⟩) 64 cap) (List.replicate (64 : Int).toNat 0) k A k.length ck (fun _ => True) rfl rfl HV3.out (Kd.C_below HC.out HB3.out) HB3.out HB3.out.size ?_; intro w4 hv4 hb4 _; have HV4 := Aside0.mk hv4; have HB4 := Aside0.mk hb4; clear hv4 hb4))
  have HV5 := Aside0.mk (show Kd.R (Kd.int .u8) 5 w4 w.heap.size (fun _ => True) (.slice (some ⟨gr, 0, none⟩) 64 cap) (pk k c 0) by rw [← pk_zero k c (List.replicate (64 : Int).toNat 0) rfl]; exact HV4.out)
  clear HV4 HV3 HB3 hgr
  go_loopg [13] 64 (fun gm v13 w' => ∃ j : Nat, v13 = .int .i64 j ∧ j + gm = 64 ∧ Aside0 (Kd.R (Kd.int .u8) 5 w' w.heap.size (fun _ => True) (.slice (some ⟨gr, 0, none⟩) 64 cap) (pk k c j)) ∧ Aside0 (Below w.heap.size w w'))
  case atStart => exact ⟨0, rfl, rfl, HV5, HB4⟩
  case round =>
    obtain ⟨j, rfl, hj, HV, HB⟩ := hrel
    clear HV5 HB4
    have HVl := Aside0.mk (show Kd.R (Kd.int .u8) 5 wr w.heap.size (fun _ => True) (.slice (some ⟨gr, 0, none⟩) (pk k c j).length cap) (pk k c j) by rw [pk_len]; exact HV.out)
    by_cases hlt : j < 64
    · have d1 : decide ((j : Int) < 64) = true := by simp only [decide_eq_true_eq]; omega
      obtain ⟨c1, f1⟩ := Kd.R_cell 0 HVl.out (j : Int) (by omega) (by rw [pk_len]; omega)
      rw [Int.toNat_natCast] at c1 f1
      have e_ := pk_get k c j hlt
      unfold rd at e_
      have c2 : wr.cell? ⟨gr, j, none⟩ = some (.int .u8 (k.getD j 0)) := by rw [c1, ← e_]; rfl
      have j0 : (0 : Int) ≤ (j : Int) := by omega
      have j1 : (j : Int) < 64 := by omega
      obtain ⟨x, hx⟩ : ∃ x, x = k.getD j 0 := ⟨_, rfl⟩
      rw [← hx] at c2
      have HX := Aside0.mk hx
      clear c1 e_ hx
      go_wp2_with (fail)
      go_roundg (gk - 1)
      case measure => omega
      case rel =>
        refine ⟨j + 1, by go_num, by omega, ⟨?_⟩, ⟨HB.out.setCell (p := ⟨gr, j, none⟩) HGR.out _⟩⟩
        have h_ := (Kd.R_put HVl.out (j : Int) (xorI x c)).1
        rw [Int.toNat_natCast, pk_len, HX.out, pk_set k c j hlt] at h_
        rw [HX.out]
        exact h_
    · obtain rfl : j = 64 := by omega
      have d1 : decide (((64 : Nat) : Int) < 64) = false := by decide
      rw [pk_end] at HV
      clear HVl
      go_wp2_with (fail)
      go_ret
      obtain ⟨A', c', he, hc', hC'⟩ := Kd.R_reads HV.out
      cases he
      exact ⟨some ⟨gr, 0, none⟩, cap, rfl, hc', hC', HB.out⟩
theorem st_step {P : Program} {ops : Array Oper} {o : Oper} {a : Act} {w : World} {K : Act → World → Prop} {Q : Exit → Act → World → Prop} {E : Prop} (hgd : o.guard = none) (ty : TypeId) (x y : Operand) (ho : o.op = .store ty x y)
    (g : Nat) (cells : Array Value) (hx : a.eval x = .pointer (some ⟨g, 0, none⟩)) (hy : a.eval y = .agg cells)
    (t : TypeId) (old : Array Value) (hg : w.heap[g]? = some (.cells old t (0, 0))) (hi : (P.info? ty).map (·.size) = some cells.size)
    (hold : old.size = cells.size) (h1 : cells.all (·.oneCell') = true)
    (h : ∀ w', Aside0 (w'.heap[g]? = some (.cells cells t (0, 0))) → Aside0 (w.grownBy w' (some g)) → K (a.put o.dst undef) w') :
    if Region.wanted o (yielded ops a.tmps) = true then Oper.wp P o a w K Q else E := by
  have hw : Region.wanted o (yielded ops a.tmps) = true := by simp [Region.wanted, hgd]
  rw [if_pos hw]
  exact wp_store_row ty x y ho g cells hx hy t old hg hi hold h1 (h _ ⟨setRow_heap w g old cells t (0, 0) hg⟩ ⟨gr_setRow w g cells⟩)
/-- A digest in memory, read as bytes. -/
theorem dv_C {W : World} {g : Nat} (x : D8) (h : W.heap[g]? = some (.cells (dv x) 25 (0, 0))) : Kd.C (Kd.int .u8) W (some ⟨g, 0, none⟩) (outs x).length (outs x) := by
  refine Kd.C_of_reads (d := (0 : Int)) (h1 := fun _ => rfl) ⟨rfl, by rw [outs_len]; decide, fun _ => ⟨_, rfl, fun j hj => ?_⟩⟩
  rw [add_plain, blk_cell h]
  unfold dv
  simp [List.getD_eq_getElem?_getD, List.getElem?_eq_getElem hj]
theorem outs_bytes (x : D8) : Bytes (outs x) := by
  intro y hy
  unfold outs at hy
  obtain ⟨i, _, rfl⟩ := List.mem_map.1 hy
  unfold outB; omega
theorem padK_bytes (k : List Int) (c : Int) : Bytes (padK k c) := by
  intro y hy
  unfold padK xorI at hy
  obtain ⟨i, _, rfl⟩ := List.mem_map.1 hy
  simp only [bits]
  have : (BitVec.ofInt IntKind.u8.bits (k.getD i 0) ^^^ BitVec.ofInt IntKind.u8.bits c).toNat < 256 := BitVec.isLt _
  rw [IntKind.wrap_u8]; omega
theorem padK_len (k : List Int) (c : Int) : (padK k c).length = 64 := by unfold padK; simp
theorem more0_64 (R : List Int) (hR : R.length = 64) (A : Option Addr) (c : Nat) (W : World) (hG : Glob W) (hC : Kd.C (Kd.int .u8) W A R.length R) (hc : 64 ≤ c) (hb : Bytes R) :
    Calls Tryd.prog 17 #[.agg (sv st0), .slice A 64 c] W fun e w' => e = .returned (.agg (sv (St R))) ∧ Below W.heap.size W w' := by
  have m1 := more_calls st0 A c R W hG hC (by rw [hR]; exact hc) hb rfl (fun x hx => by rw [List.eq_of_mem_replicate hx]; decide) (by show 0 + _ < _; rw [hR]; decide)
  rw [hR] at m1
  exact m1
theorem moreS_out (R : List Int) (hR : R.length ≤ 1000000) (hb : Bytes R) (X : D8) (g : Nat) (W : World) (hG : Glob W) (h : W.heap[g]? = some (.cells (dv X) 25 (0, 0))) :
    Calls Tryd.prog 17 #[.agg (sv (St R)), .slice (some ⟨g, 0, none⟩) 32 32] W fun e w' => e = .returned (.agg (sv (St (R ++ outs X)))) ∧ Below W.heap.size W w' := by
  have m1 := more_calls (St R) (some ⟨g, 0, none⟩) 32 (outs X) W hG (dv_C X h) (by rw [outs_len]; decide) (outs_bytes X) (St_r R) (St_bytes R hb) (by rw [St_n, outs_len]; omega)
  rw [outs_len, ← St_append] at m1
  exact m1
theorem st_cells (z : Nat) (Z DD : Array Value) (W : World) (h : W.heap[z]? = some (.cells Z 25 (0, 0))) (hs : Z.size = DD.size) (h1 : DD.all (·.oneCell') = true) : (storeCells ⟨z, 0, none⟩ DD.toList).run Tryd.prog W = .ok () (W.setRow z DD) := by
  have := run_storeCells_from (P := Tryd.prog) z 25 DD.toList 0 Z W h (by simp; omega) (fun v hv => (Array.all_eq_true_iff_forall_mem.1 h1) v (by simpa using hv))
  simpa [hs] using this
/-- What Mac's last statement holds. -/
structure MI (w W : World) (z g : Nat) (Z : Array Value) (X : D8) (A : Option Addr) (q : List Int) : Prop where
  bel : Below w.heap.size w W
  out : W.heap[z]? = some (.cells Z 25 (0, 0))
  inn : W.heap[g]? = some (.cells (dv X) 25 (0, 0))
  cq : Kd.C (Kd.int .u8) W A q.length q
theorem MI.then_ {w W W' : World} {z g : Nat} {Z : Array Value} {X : D8} {A : Option Addr} {q : List Int} (h : MI w W z g Z X A q) (hb : Below W.heap.size W W') : MI w W' z g Z X A q :=
  ⟨below_step h.bel hb, blk_below h.out hb, blk_below h.inn hb, Kd.C_below h.cq hb⟩
theorem MI.drew {w W : World} {z g : Nat} {Z : Array Value} {X : D8} {A : Option Addr} {q : List Int} (h : MI w W z g Z X A q) : MI w W.drew z g Z X A q :=
  ⟨below_drew h.bel, h.out, h.inn, Kd.C_drew h.cq⟩
set_option maxHeartbeats 4000000 in
set_option maxRecDepth 100000 in
theorem mac_calls (A0 : Option Addr) (c0 : Nat) (k : List Int) (A1 : Option Addr) (c1 : Nat) (b : List Int) (w : World) (hG : Glob w) (hC0 : Kd.C (Kd.int .u8) w A0 k.length k) (hc0 : k.length ≤ c0) (hk : Bytes k) (hkn : k.length ≤ 100000)
    (hC1 : Kd.C (Kd.int .u8) w A1 b.length b) (hc1 : b.length ≤ c1) (hb : Bytes b) (hbn : b.length ≤ 100000) :
    Calls Tryd.prog 13 #[.slice A0 k.length c0, .slice A1 b.length c1] w fun e w' => ∃ x : D8, outs x = mac k b ∧ e = .returned (.agg (dv x)) ∧ Below w.heap.size w w' := by
  have hz := zero25
  obtain ⟨Z, hZ⟩ : ∃ Z, Z = Z25 := ⟨_, rfl⟩
  rw [← hZ] at hz
  have HZ := Aside0.mk (show Z.size = 32 by rw [hZ]; rfl)
  have HG := Aside0.mk hG
  have HC0 := Aside0.mk hC0
  have HL0 := Aside0.mk hc0
  have HK := Aside0.mk hk
  have HKN := Aside0.mk hkn
  have HC1 := Aside0.mk hC1
  have HL1 := Aside0.mk hc1
  have HB := Aside0.mk hb
  have HBN := Aside0.mk hbn
  clear hZ hG hC0 hc0 hk hkn hC1 hc1 hb hbn
  go_enter Tryd.func13, Tryd.ntmps13
  go_upto_if 9 with (fail)
  obtain ⟨z, hz2⟩ : ∃ z, z = w.heap.size := ⟨_, rfl⟩
  obtain ⟨W1, hW1⟩ : ∃ W1, W1 = w.alloc (.cells Z 25) := ⟨_, rfl⟩
  rw [← hW1, ← hz2]
  have HBZ := Aside0.mk (show W1.heap[z]? = some (.cells Z 25 (0, 0)) by rw [hW1, hz2]; exact blk_new _ _)
  have HB1 := Aside0.mk (show Below w.heap.size w W1 by rw [hW1]; exact below_alloc (Below.refl w.heap.size w) _)
  have HZL := Aside0.mk (show w.heap.size ≤ z by omega)
  clear hW1 hz2
  go_cut [0] (fun v0 wc => ∃ (A : Option Addr) (c : Nat) (q : List Int), v0 = .slice A q.length c ∧ Aside0 (q = keyOf64 k) ∧ Aside0 (q.length ≤ c) ∧ Aside0 (Kd.C (Kd.int .u8) wc A q.length q) ∧ Aside0 (Below w.heap.size w wc) ∧ Aside0 (wc.heap[z]? = some (.cells Z 25 (0, 0))))
  case first =>
    by_cases h64 : 64 < k.length
    · have d1 : decide ((64 : Int) < (k.length : Int)) = true := by simp only [decide_eq_true_eq]; omega
      have HKO := Aside0.mk (show keyOf64 k = outs (DW k) by unfold keyOf64; rw [if_pos h64]; rfl)
      have h64i : ¬ ((k.length : Int) ≤ 64) := by omega
      have h64j : (64 : Int) < (k.length : Int) := by omega
      go_wp2_with (fail)
      refine (digest_calls A0 c0 k W1 (HG.out.below HB1.out) (Kd.C_below HC0.out HB1.out) HL0.out HK.out (by have := HKN.out; omega)).mono ?_
      rintro e w2 ⟨rfl, hb2⟩
      have HBZ2 := Aside0.mk (blk_below HBZ.out hb2)
      have HB2 := Aside0.mk (below_step HB1.out hb2)
      clear hb2
      go_wp2_with ((with_reducible refine gate_store (p := 5) rfl ?_); refine st_row ?hgd_5 25 (.tmp 5) (.tmp 11) ?ho_5 w2.heap.size (dv (DW k)) ?hx_5 ?hy_5 25 Z ?hg_5 ?hi_5 ?hold_5 (dv_one _) ?_; (case hgd_5 => rfl); (case ho_5 => rfl); (case hx_5 => rfl); (case hy_5 => rfl); (case hg_5 => exact blk_new _ _); (case hi_5 => rw [dv_size]; exact size25); (case hold_5 => rw [HZ.out, dv_size]); intro w3 hb3 hg3)
      have HBZ3 := Aside0.mk (gr_blk hg3.out (blk_alloc HBZ2.out _) (by have h_ := blk_lt HBZ2.out; omega))
      have HB3 := Aside0.mk ((below_alloc HB2.out _).trans (gr_below hg3.out HB2.out.size (below_alloc HB2.out (.cells Z 25)).size))
      go_meet
      case rel => exact ⟨some ⟨w2.heap.size, 0, none⟩, 32, outs (DW k), rfl, ⟨HKO.out.symm⟩, ⟨by rw [outs_len]; decide⟩, ⟨dv_C _ hb3.out⟩, HB3, HBZ3⟩
    · have d1 : decide ((64 : Int) < (k.length : Int)) = false := by simp only [decide_eq_false_iff_not]; omega
      have HKO := Aside0.mk (show k = keyOf64 k by unfold keyOf64; rw [if_neg h64])
      have h64j : ¬ ((64 : Int) < (k.length : Int)) := by omega
      go_wp2_with (fail)
      go_meet
      case rel => exact ⟨A0, c0, k, rfl, HKO, HL0, ⟨Kd.C_below HC0.out HB1.out⟩, HB1, HBZ⟩
  case rest =>
    obtain ⟨A, c, q, rfl, HQ, HLq, HCq, HBw, HBZw⟩ := hcut
    have HQN := Aside0.mk (show q.length ≤ 100000 by
      rw [HQ.out]; unfold keyOf64; split
      · rw [digest_len]; decide
      · exact HKN.out)
    go_wp2_with (fail)
    refine (start_calls _).mono ?_
    rintro e w1 ⟨rfl, hb1⟩
    have HBZ1 := Aside0.mk (blk_below HBZw.out hb1)
    have HB1 := Aside0.mk (below_step HBw.out hb1)
    have HCq1 := Aside0.mk (Kd.C_below HCq.out hb1)
    clear hb1 HBw HBZw HCq
    go_wp2_with (fail)
    refine (padded_calls A c q 54 w1 HCq1.out).mono ?_
    rintro e w2 ⟨A2, c2, rfl, hc2, hC2, hb2⟩
    have HBZ2 := Aside0.mk (blk_below HBZ1.out hb2)
    have HB2 := Aside0.mk (below_step HB1.out hb2)
    have HCq2 := Aside0.mk (Kd.C_below HCq1.out hb2)
    have HC2 := Aside0.mk hC2
    have HL2 := Aside0.mk hc2
    clear hb2 HB1 HBZ1 HCq1 hC2 hc2
    obtain ⟨P, hP⟩ : ∃ P, P = padK q 54 := ⟨_, rfl⟩
    have HPL := Aside0.mk (show P.length = 64 by rw [hP]; exact padK_len _ _)
    have HPB := Aside0.mk (show Bytes P by rw [hP]; exact padK_bytes _ _)
    rw [← hP] at HC2
    have HP := Aside0.mk hP
    clear hP
    have m1 := more_calls st0 A2 c2 P w2 (HG.out.below HB2.out) HC2.out (by rw [HPL.out]; exact HL2.out) HPB.out rfl (fun x hx => by rw [List.eq_of_mem_replicate hx]; decide) (by show 0 + _ < _; rw [HPL.out]; decide)
    rw [HPL.out, show more st0 P = St P from rfl] at m1
    have HM1 := Aside0.mk m1
    clear m1
    go_wp2_with (fail)
    refine HM1.out.mono ?_
    rintro e w3 ⟨rfl, hb3⟩
    have HBZ3 := Aside0.mk (blk_below HBZ2.out hb3)
    have HB3 := Aside0.mk (below_step HB2.out hb3)
    have HCq3 := Aside0.mk (Kd.C_below HCq2.out hb3)
    clear hb3 HB2 HBZ2 HCq2 HM1 HC2
    have m2 := more_calls (St P) A1 c1 b w3 (HG.out.below HB3.out) (Kd.C_below HC1.out HB3.out) HL1.out HB.out (St_r P) (St_bytes P HPB.out) (by rw [St_n, HPL.out]; have := HBN.out; omega)
    rw [← St_append] at m2
    have HM2 := Aside0.mk m2
    clear m2
    go_wp2_with (fail)
    refine HM2.out.mono ?_
    rintro e w4 ⟨rfl, hb4⟩
    have HBZ4 := Aside0.mk (blk_below HBZ3.out hb4)
    have HB4 := Aside0.mk (below_step HB3.out hb4)
    have HCq4 := Aside0.mk (Kd.C_below HCq3.out hb4)
    clear hb4 HB3 HBZ3 HCq3 HM2
    go_wp2_with (fail)
    refine (sum_calls (P ++ b) w4 (HG.out.below HB4.out) (fun x hx => (List.mem_append.1 hx).elim (HPB.out x) (HB.out x)) (by rw [List.length_append, HPL.out]; have := HBN.out; omega)).mono ?_
    rintro e w5 ⟨rfl, hb5⟩
    have HBZ5 := Aside0.mk (blk_below HBZ4.out hb5)
    have HB5 := Aside0.mk (below_step HB4.out hb5)
    have HCq5 := Aside0.mk (Kd.C_below HCq4.out hb5)
    clear hb5 HB4 HBZ4 HCq4
    obtain ⟨X, hX⟩ : ∃ X, X = DW (P ++ b) := ⟨_, rfl⟩
    rw [← hX]
    have HX := Aside0.mk hX
    clear hX
    obtain ⟨g, hgg⟩ : ∃ g, g = w5.heap.size := ⟨_, rfl⟩
    have HGG := Aside0.mk hgg
    clear hgg
    go_wp2_with ((with_reducible refine gate_store (p := 6) rfl ?_); refine st_row ?hgd_6 25 (.tmp 6) (.tmp 19) ?ho_6 w5.heap.size (dv X) ?hx_6 ?hy_6 25 Z ?hg_6 ?hi_6 ?hold_6 (dv_one _) ?_; (case hgd_6 => rfl); (case ho_6 => rfl); (case hx_6 => rfl); (case hy_6 => rfl); (case hg_6 => exact blk_new _ _); (case hi_6 => rw [dv_size]; exact size25); (case hold_6 => rw [HZ.out, dv_size]); intro w6 hb6 hg6)
    have HBZ6 := Aside0.mk (gr_blk hg6.out (blk_alloc HBZ5.out _) (by have h_ := blk_lt HBZ5.out; omega))
    have HB6 := Aside0.mk ((below_alloc HB5.out _).trans (gr_below hg6.out HB5.out.size (below_alloc HB5.out (.cells Z 25)).size))
    have HCq6 := Aside0.mk (Kd.C_below HCq5.out ((below_alloc (Below.refl w5.heap.size w5) (.cells Z 25)).trans (gr_below hg6.out (Nat.le_refl _) (below_alloc (Below.refl _ _) (.cells Z 25)).size)))
    have hbx := hb6.out
    rw [← HGG.out] at hbx
    have HBX := Aside0.mk hbx
    rw [← HGG.out]
    clear hbx hb6 hg6 HCq5
    obtain ⟨R, hR⟩ : ∃ R, R = padK q 92 := ⟨_, rfl⟩
    have HRL := Aside0.mk (show R.length = 64 by rw [hR]; exact padK_len _ _)
    have HRB := Aside0.mk (show Bytes R by rw [hR]; exact padK_bytes _ _)
    have HR := Aside0.mk hR
    clear hR
    obtain ⟨DD, hDD⟩ : ∃ DD, DD = dv (DW (R ++ outs X)) := ⟨_, rfl⟩
    have hDS : DD.size = 32 := by rw [hDD]; exact dv_size _
    have HDO := Aside0.mk (show DD.all (·.oneCell') = true by rw [hDD]; exact dv_one _)
    have HDD := Aside0.mk hDD
    clear hDD
    have hI : MI w w6 z g Z X A q := ⟨HB6.out, HBZ6.out, HBX.out, HCq6.out⟩
    clear HB6 HBZ6 HBX HCq6 HBZ5 HB5
    go_region_law (first
      | (go_simp; go_at_call 15; refine (start_calls _).mono ?_; rintro e w7 ⟨rfl, hb7⟩; have hI := MI.then_ (by first | exact hI | exact MI.drew hI) hb7; (try have HCR := Aside0.mk (Kd.C_below HCR.out hb7)); clear hb7)
      | (go_simp; go_at_call 20; refine (padded_calls A c q 92 _ (by first | exact hI.cq | exact (MI.drew hI).cq)).mono ?_; rintro e w7 ⟨A3, c3, rfl, hc3, hC3, hb7⟩; have hI := MI.then_ (by first | exact hI | exact MI.drew hI) hb7; rw [← HR.out] at hC3; have HCR := Aside0.mk hC3; have HLR := Aside0.mk hc3; clear hb7 hC3 hc3)
      | (have z_ := HD1; clear z_; go_simp; go_at_call 17; refine (moreS_out R (by rw [HRL.out]; decide) HRB.out X g _ (HG.out.below (MI.bel hI)) (MI.inn hI)).mono ?_; rintro e w8 ⟨rfl, hb8⟩; have hI := MI.then_ hI hb8; clear hb8)
      | (go_simp; go_at_call 17; refine (more0_64 R HRL.out A3 c3 _ (HG.out.below (MI.bel hI)) HCR.out HLR.out HRB.out).mono ?_; rintro e w7 ⟨rfl, hb7⟩; have hI := MI.then_ hI hb7; have HD1 := Aside0.mk trivial; clear hb7)
      | (go_simp; go_at_call 16; refine (sum_calls (R ++ outs X) _ (HG.out.below (MI.bel hI)) (fun x hx => (List.mem_append.1 hx).elim (HRB.out x) (outs_bytes X x)) (by rw [List.length_append, HRL.out, outs_len]; decide)).mono ?_; rintro e w7 ⟨rfl, hb7⟩; have hI := MI.then_ hI hb7; rw [← HDD.out]; have hst := st_cells z Z DD w7 (MI.out hI) (by rw [HZ.out, hDS]) HDO.out; clear hb7))
    all_goals
      have HB9 := Aside0.mk ((MI.bel hI).trans (gr_below (gr_setRow w7 z DD) HZL.out (MI.bel hI).size))
      have hb9 := setRow_heap w7 z Z DD 25 (0, 0) (MI.out hI)
      go_wp2_with (fail)
      refine bodyPost_ret (results_cell_row (fn := Tryd.f13) rfl _ _ z 25 DD (0, 0) _ rfl hb9 Tryd.underlying25 rfl (by rw [hDS]; exact size25)) rfl ?_
      exact ⟨DW (R ++ outs X), by rw [HX.out, HR.out, HP.out, HQ.out]; rfl, by rw [HDD.out], HB9.out⟩
end Go.Proofs.YtanafhccflmdkaaDoor.Ext
