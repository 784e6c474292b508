/- ShaForks, by hand. -/
import Derived.Test.YtanafhccflmdkaaDoorShaF
import Derived.Test.YtanafhccflmdkaaDoorWGuard
namespace Go.Proofs.YtanafhccflmdkaaDoor.Ext
open Go.RowKit Go.Proofs.YtanafhccflmdkaaDoorW.PrintWords Go.Proofs.YtanafhccflmdkaaDoorW.PrintLast Go.Proofs.YtanafhccflmdkaaDoorW.PrintMore
set_option linter.unusedVariables false
set_option linter.unusedSimpArgs false
def mn2 (a b : Int) : Int := if b < a then b else a
theorem min2_mn (k k' : IntKind) (x y : Int) : Builtin.min2 (.int k x) (.int k' y) = pure (.int k (mn2 x y)) := by rw [min2_int]; rfl
attribute [local go_sem] min2_mn max_two min_two
theorem eq_arr (d : Nat) (D : Array Value) (hD : ∀ i, i < 32 → ∃ v, D[i]? = some (.int .u8 v)) (w : World) : (Op.equalIn (d + 1 + 1) 25 (.agg D) (.agg D)).run Tryd.prog w = .ok true w := by
  obtain ⟨x, hx, hs⟩ := Option.map_eq_some_iff.1 (show (Tryd.prog.info? 5).map (·.size) = some 1 by kernel_rfl)
  have hp : ∀ i, i < 32 → ∀ w : World, ∃ v, (part 5 D i).run Tryd.prog w = .ok (.int .u8 v) w := by
    intro i hi w
    obtain ⟨v, hv⟩ := hD i hi
    refine ⟨v, ?_⟩
    simp [part, sizeOf, typeInfo, hx, hs, hv]
  rw [Op.equalIn]
  simp only [Sem.run_bind, run_underlying Tryd.underlying25, Result.andThen_ok, sizeOf, typeInfo]
  simp [hx, hs]
  have key : ∀ (l : List Nat), (∀ i ∈ l, i < 32) → (Sem.run Tryd.prog (forIn l ((none : Option Bool), ()) fun i __s => do
            let __do_lift ← part 5 D i
            let __do_lift_1 ← part 5 D i
            let __do_lift ← Op.equalIn (d + 1) 5 __do_lift __do_lift_1
            if __do_lift = false then pure (ForInStep.done (some false, ())) else pure (ForInStep.yield (none, ()))) w) = .ok (none, ()) w := by
    intro l
    induction l with
    | nil => intro _; simp
    | cons i l ih =>
      intro h
      obtain ⟨v, hv⟩ := hp i (h i (by simp)) w
      have ih' := ih (fun j hj => h j (by simp [hj]))
      simp only [List.forIn_cons, Sem.run_bind, hv, Result.andThen_ok, run_equalIn_int w d 5 .u8 .u8 v v Tryd.underlying5]
      simpa using ih'
  rw [key _ (fun i hi => by simp at hi; exact hi)]
  simp
theorem moreS (b : List Int) (A : Option Addr) (c : Nat) (x : List Int) (w : World) (hG : Glob w) (hC : Kd.C (Kd.int .u8) w A x.length x) (hc : x.length ≤ c) (hb : Bytes b) (hx : Bytes x) (hn : b.length + x.length ≤ 1000000) :
    Calls Tryd.prog 17 #[.agg (sv (St b)), .slice A x.length c] w fun e w' => e = .returned (.agg (sv (St (b ++ x)))) ∧ Below w.heap.size w w' := by
  rw [St_append]
  exact more_calls (St b) A c x w hG hC hc hx (St_r b) (St_bytes b hb) (by rw [St_n]; omega)
theorem moreS0 (A : Option Addr) (c : Nat) (x : List Int) (w : World) (hG : Glob w) (hC : Kd.C (Kd.int .u8) w A x.length x) (hc : x.length ≤ c) (hx : Bytes x) (hn : x.length ≤ 1000000) :
    Calls Tryd.prog 17 #[.agg (sv st0), .slice A x.length c] w fun e w' => e = .returned (.agg (sv (St x))) ∧ Below w.heap.size w w' :=
  moreS [] A c x w hG hC hc (fun x hx => by simp at hx) hx (by simpa using hn)
theorem eq_dv (d : Nat) (x : D8) (w : World) : (Op.equalIn (d + 1 + 1) 25 (.agg (dv x)) (.agg (dv x))).run Tryd.prog w = .ok true w :=
  eq_arr d (dv x) (fun i hi => ⟨_, dv_get x i hi⟩) w
/-- A text cut to at most so many bytes. -/
theorem cut_at (A : Option Addr) (n c M : Nat) (MI : Int) (hM : MI = (M : Int)) (hc : n ≤ c) : ∃ m : Nat, m = min n M ∧ mn2 (n : Int) MI = (m : Int) ∧ ∀ W : World, (Instr.slice 22 (.slice A n c) none (some (.int .i64 (m : Int))) none).run Tryd.prog W = .ok (.slice A m c) W := by
  obtain ⟨x, hx, hs⟩ := Option.map_eq_some_iff.1 size5
  refine ⟨min n M, rfl, by rw [hM]; unfold mn2; split <;> omega, fun W => ?_⟩
  have h_ := cut_to 22 5 .i64 Tryd.underlying22 hx A n c ((min n M : Nat) : Int) (by omega) (by omega) hc W
  rw [h_, Int.toNat_natCast]
set_option maxHeartbeats 4000000 in
set_option maxRecDepth 100000 in
theorem forks_calls (A0 : Option Addr) (c0 : Nat) (l0 : List Int) (A1 : Option Addr) (c1 : Nat) (l1 : List Int) (A2 : Option Addr) (c2 : Nat) (l2 : List Int) (w : World) (hG : Glob w)
    (hC0 : Kd.C (Kd.int .u8) w A0 l0.length l0) (hc0 : l0.length ≤ c0) (hb0 : Bytes l0) (hC1 : Kd.C (Kd.int .u8) w A1 l1.length l1) (hc1 : l1.length ≤ c1) (hb1 : Bytes l1) (hC2 : Kd.C (Kd.int .u8) w A2 l2.length l2) (hc2 : l2.length ≤ c2) (hb2 : Bytes l2) :
    Calls Tryd.prog 6 #[.slice A0 l0.length c0, .slice A1 l1.length c1, .slice A2 l2.length c2] w fun e w' => e = .returned (.bool true) ∧ Below w.heap.size w w' := by
  obtain ⟨m0, hm0, hmn0, hcut0⟩ := cut_at A0 l0.length c0 300 300 rfl hc0
  obtain ⟨m1, hm1, hmn1, hcut1⟩ := cut_at A1 l1.length c1 200 200 rfl hc1
  obtain ⟨m2, hm2, hmn2, hcut2⟩ := cut_at A2 l2.length c2 200 200 rfl hc2
  obtain ⟨L0, hL0⟩ : ∃ L, L = l0.take m0 := ⟨_, rfl⟩
  have hLl0 : L0.length = m0 := by rw [hL0, List.length_take]; omega
  have HC0 := Aside0.mk (show Kd.C (Kd.int .u8) w A0 L0.length L0 by rw [hL0]; exact Kd.C_take hC0 (by omega))
  have HB0 := Aside0.mk (show Bytes L0 by rw [hL0]; exact fun x hx => hb0 x (List.mem_of_mem_take hx))
  have HLE0 := Aside0.mk (show L0.length ≤ c0 ∧ L0.length ≤ 300 by omega)
  rw [← hLl0] at hmn0 hcut0
  obtain ⟨L1, hL1⟩ : ∃ L, L = l1.take m1 := ⟨_, rfl⟩
  have hLl1 : L1.length = m1 := by rw [hL1, List.length_take]; omega
  have HC1 := Aside0.mk (show Kd.C (Kd.int .u8) w A1 L1.length L1 by rw [hL1]; exact Kd.C_take hC1 (by omega))
  have HB1 := Aside0.mk (show Bytes L1 by rw [hL1]; exact fun x hx => hb1 x (List.mem_of_mem_take hx))
  have HLE1 := Aside0.mk (show L1.length ≤ c1 ∧ L1.length ≤ 300 by omega)
  rw [← hLl1] at hmn1 hcut1
  obtain ⟨L2, hL2⟩ : ∃ L, L = l2.take m2 := ⟨_, rfl⟩
  have hLl2 : L2.length = m2 := by rw [hL2, List.length_take]; omega
  have HC2 := Aside0.mk (show Kd.C (Kd.int .u8) w A2 L2.length L2 by rw [hL2]; exact Kd.C_take hC2 (by omega))
  have HB2 := Aside0.mk (show Bytes L2 by rw [hL2]; exact fun x hx => hb2 x (List.mem_of_mem_take hx))
  have HLE2 := Aside0.mk (show L2.length ≤ c2 ∧ L2.length ≤ 300 by omega)
  rw [← hLl2] at hmn2 hcut2
  obtain ⟨L01, hL01⟩ : ∃ L, L = L0 ++ L1 := ⟨_, rfl⟩
  obtain ⟨L02, hL02⟩ : ∃ L, L = L0 ++ L2 := ⟨_, rfl⟩
  have HL01 := Aside0.mk hL01
  have HL02 := Aside0.mk hL02
  have HN01 := Aside0.mk (show L01.length ≤ 600 ∧ Bytes L01 by rw [hL01]; exact ⟨by rw [List.length_append]; have h_ := HLE0.out; have h1_ := HLE1.out; omega, fun x hx => (List.mem_append.1 hx).elim (HB0.out x) (HB1.out x)⟩)
  have HN02 := Aside0.mk (show L02.length ≤ 600 ∧ Bytes L02 by rw [hL02]; exact ⟨by rw [List.length_append]; have h_ := HLE0.out; have h1_ := HLE2.out; omega, fun x hx => (List.mem_append.1 hx).elim (HB0.out x) (HB2.out x)⟩)
  clear hL01 hL02
  have HG := Aside0.mk hG
  clear hG hL0 hL1 hL2 hLl0 hLl1 hLl2 hC0 hC1 hC2 hb0 hb1 hb2 hc0 hc1 hc2 hm0 hm1 hm2
  have hz := zero40
  obtain ⟨Z, hZ⟩ : ∃ Z, Z = Z40 := ⟨_, rfl⟩
  rw [← hZ] at hz
  have HZ := Aside0.mk (show Z.size = 73 by rw [hZ]; rfl)
  clear hZ
  have heq : ∀ (x : D8) (W : World), (Op.equalIn 10000 25 (.agg (dv x)) (.agg (dv x))).run Tryd.prog W = .ok true W := fun x W => eq_dv 9998 x W
  go_enter Tryd.func6, Tryd.ntmps6
  go_wp2_with (fail)
  refine (shown_calls w HG.out).mono ?_
  rintro e wz ⟨rfl, hb⟩
  have HBw1 := Aside0.mk (hb)
  clear hb
  go_wp2_with (fail)
  refine (start_calls _).mono ?_
  rintro e wz ⟨rfl, hb⟩
  have HBw2 := Aside0.mk (below_step HBw1.out hb)
  clear hb HBw1
  go_wp2_with (fail)
  refine (moreS0 A0 c0 L0 _ (HG.out.below HBw2.out) (Kd.C_below HC0.out HBw2.out) HLE0.out.1 HB0.out (by have h_ := HLE0.out; omega)).mono ?_
  rintro e wz ⟨rfl, hb⟩
  have HBw3 := Aside0.mk (below_step HBw2.out hb)
  clear hb HBw2
  go_upto_region 6 with (first
    | ((with_reducible refine gate_store (p := 8) rfl ?_); refine st_row ?hgd_s8_29 40 (.tmp 8) (.tmp 29) ?ho_s8_29 wz.heap.size (sv (St L0)) ?hx_s8_29 ?hy_s8_29 40 (Z) ?hg_s8_29 ?hi_s8_29 ?hold_s8_29 (sv_one _) ?_; (case hgd_s8_29 => rfl); (case ho_s8_29 => rfl); (case hx_s8_29 => rfl); (case hy_s8_29 => rfl); (case hg_s8_29 => exact blk_new _ _); (case hi_s8_29 => rw [sv_size _ (St_r _)]; exact size40); (case hold_s8_29 => rw [HZ.out, sv_size _ (St_r _)]); intro w8 hb8 hg8)
    | fail)
  have HS0 := hb8
  have HBw4 := Aside0.mk ((below_alloc HBw3.out _).trans (gr_below hg8.out HBw3.out.size (below_alloc HBw3.out (.cells Z 40)).size))
  obtain ⟨g0, hg0⟩ : ∃ g, g = wz.heap.size := ⟨_, rfl⟩
  rw [← hg0] at HS0 ⊢
  clear hg0 hb8 hg8 HBw3
  obtain ⟨wz, hwz⟩ : ∃ W_ : World, W_ = w8 := ⟨_, rfl⟩
  subst hwz
  go_wp2_with (first
    | ((with_reducible refine gate_dst (N := 30) rfl ?_); refine wpList_load_row ?hgd_30 40 (.tmp 8) ?ho_30 g0 ?hx_30 40 (sv (St L0)) (0, 0) ?d_30 ?hg_30 ?hu_30 ?hd_30 ?hi_30 ?_; (case hgd_30 => rfl); (case ho_30 => rfl); (case hx_30 => rfl); (case hg_30 => exact HS0.out); (case hu_30 => exact Tryd.underlying40); (case hd_30 => rfl); (case hi_30 => rw [sv_size _ (St_r _)]; exact size40))
    | fail)
  refine (moreS L0 A1 c1 L1 _ (HG.out.below HBw4.out) (Kd.C_below HC1.out HBw4.out) HLE1.out.1 HB0.out HB1.out (by have h_ := HLE0.out; have h1_ := HLE1.out; omega)).mono ?_
  rintro e wz ⟨rfl, hb⟩
  rw [← HL01.out]
  have HBw5 := Aside0.mk (below_step HBw4.out hb)
  have HS0' := Aside0.mk (blk_below HS0.out hb)
  clear HS0
  have HS0 := HS0'
  clear HS0'
  clear hb HBw4
  go_upto_region 7 with (first
    | ((with_reducible refine gate_store (p := 9) rfl ?_); refine st_row ?hgd_s9_32 40 (.tmp 9) (.tmp 32) ?ho_s9_32 wz.heap.size (sv (St L01)) ?hx_s9_32 ?hy_s9_32 40 (Z) ?hg_s9_32 ?hi_s9_32 ?hold_s9_32 (sv_one _) ?_; (case hgd_s9_32 => rfl); (case ho_s9_32 => rfl); (case hx_s9_32 => rfl); (case hy_s9_32 => rfl); (case hg_s9_32 => exact blk_new _ _); (case hi_s9_32 => rw [sv_size _ (St_r _)]; exact size40); (case hold_s9_32 => rw [HZ.out, sv_size _ (St_r _)]); intro w9 hb9 hg9)
    | fail)
  have HS1 := hb9
  have HBw6 := Aside0.mk ((below_alloc HBw5.out _).trans (gr_below hg9.out HBw5.out.size (below_alloc HBw5.out (.cells Z 40)).size))
  have HS0' := Aside0.mk (gr_blk hg9.out (blk_alloc HS0.out _) (by have h_ := blk_lt HS0.out; omega))
  clear HS0
  have HS0 := HS0'
  clear HS0'
  obtain ⟨g1, hg1⟩ : ∃ g, g = wz.heap.size := ⟨_, rfl⟩
  rw [← hg1] at HS1 ⊢
  clear hg1 hb9 hg9 HBw5
  obtain ⟨wz, hwz⟩ : ∃ W_ : World, W_ = w9 := ⟨_, rfl⟩
  subst hwz
  go_wp2_with (first
    | ((with_reducible refine gate_dst (N := 33) rfl ?_); refine wpList_load_row ?hgd_33 40 (.tmp 8) ?ho_33 g0 ?hx_33 40 (sv (St L0)) (0, 0) ?d_33 ?hg_33 ?hu_33 ?hd_33 ?hi_33 ?_; (case hgd_33 => rfl); (case ho_33 => rfl); (case hx_33 => rfl); (case hg_33 => exact HS0.out); (case hu_33 => exact Tryd.underlying40); (case hd_33 => rfl); (case hi_33 => rw [sv_size _ (St_r _)]; exact size40))
    | fail)
  refine (moreS L0 A2 c2 L2 _ (HG.out.below HBw6.out) (Kd.C_below HC2.out HBw6.out) HLE2.out.1 HB0.out HB2.out (by have h_ := HLE0.out; have h1_ := HLE2.out; omega)).mono ?_
  rintro e wz ⟨rfl, hb⟩
  rw [← HL02.out]
  have HBw7 := Aside0.mk (below_step HBw6.out hb)
  have HS0' := Aside0.mk (blk_below HS0.out hb)
  clear HS0
  have HS0 := HS0'
  clear HS0'
  have HS1' := Aside0.mk (blk_below HS1.out hb)
  clear HS1
  have HS1 := HS1'
  clear HS1'
  clear hb HBw6
  go_upto_region 8 with (first
    | ((with_reducible refine gate_store (p := 10) rfl ?_); refine st_row ?hgd_s10_35 40 (.tmp 10) (.tmp 35) ?ho_s10_35 wz.heap.size (sv (St L02)) ?hx_s10_35 ?hy_s10_35 40 (Z) ?hg_s10_35 ?hi_s10_35 ?hold_s10_35 (sv_one _) ?_; (case hgd_s10_35 => rfl); (case ho_s10_35 => rfl); (case hx_s10_35 => rfl); (case hy_s10_35 => rfl); (case hg_s10_35 => exact blk_new _ _); (case hi_s10_35 => rw [sv_size _ (St_r _)]; exact size40); (case hold_s10_35 => rw [HZ.out, sv_size _ (St_r _)]); intro w10 hb10 hg10)
    | fail)
  have HS2 := hb10
  have HBw8 := Aside0.mk ((below_alloc HBw7.out _).trans (gr_below hg10.out HBw7.out.size (below_alloc HBw7.out (.cells Z 40)).size))
  have HS0' := Aside0.mk (gr_blk hg10.out (blk_alloc HS0.out _) (by have h_ := blk_lt HS0.out; omega))
  clear HS0
  have HS0 := HS0'
  clear HS0'
  have HS1' := Aside0.mk (gr_blk hg10.out (blk_alloc HS1.out _) (by have h_ := blk_lt HS1.out; omega))
  clear HS1
  have HS1 := HS1'
  clear HS1'
  obtain ⟨g2, hg2⟩ : ∃ g, g = wz.heap.size := ⟨_, rfl⟩
  rw [← hg2] at HS2 ⊢
  clear hg2 hb10 hg10 HBw7
  obtain ⟨wz, hwz⟩ : ∃ W_ : World, W_ = w10 := ⟨_, rfl⟩
  subst hwz
  obtain ⟨w8, hw_⟩ : ∃ W_ : World, W_ = wz := ⟨_, rfl⟩
  subst hw_
  have HG8 := Aside0.mk (HG.out.below HBw8.out)
  have HC08 := Aside0.mk (Kd.C_below HC0.out HBw8.out)
  have HC18 := Aside0.mk (Kd.C_below HC1.out HBw8.out)
  have HC28 := Aside0.mk (Kd.C_below HC2.out HBw8.out)
  have HD0 := Aside0.mk (Below.refl w8.heap.size w8)
  go_wp2_with (first
    | ((with_reducible refine gate_dst (N := 38) rfl ?_); refine gate_guard (by rfl) ?_; dsimp only; refine wpList_load_row ?hgd_38 40 (.tmp 9) ?ho_38 g1 ?hx_38 40 (sv (St (L01))) (0, 0) ?d_38 ?hg_38 ?hu_38 ?hd_38 ?hi_38 ?_; (case hgd_38 => rfl); (case ho_38 => rfl); (case hx_38 => rfl); (case hg_38 => exact blk_below HS1.out HD0.out); (case hu_38 => exact Tryd.underlying40); (case hd_38 => rfl); (case hi_38 => rw [sv_size _ (St_r _)]; exact size40))
    | fail)
  refine (sum_calls (L01) _ (HG8.out.below HD0.out) HN01.out.2 (by have h_ := HN01.out.1; omega)).mono ?_
  rintro e wz ⟨rfl, hb⟩
  have HD1 := Aside0.mk (below_step HD0.out hb)
  clear hb HD0
  go_wp2_with (first
    | ((with_reducible refine gate_dst (N := 40) rfl ?_); refine gate_guard (by rfl) ?_; dsimp only; refine Kd.R_lit (Kd.int .u8) (w0 := w8) w8.heap.size 5 ?hg_l40 (N := 40) ?hd_l40 (xs := ([] : List Int)) (inner := []) (ok := fun _ => True) (okp := fun _ => True) ?hr_l40 ?hp_l40 (fun _ hk => hk) trivial HD1.out HD1.out.size (by simp) ?_; (case hd_l40 => rfl); (case hg_l40 => rfl); (case hr_l40 => first | (go_simp; done) | (go_simp; rfl)); (case hp_l40 => exact (Reps.none _ _)); intro va wa hva hba _ _; have HVa := Aside0.mk hva; have HBa := Aside0.mk hba; clear hva hba)
    | ((with_reducible refine gate_dst (N := 42) rfl ?_); refine gate_guard (by rfl) ?_; dsimp only; refine Kd.R_append_row (Value.int .u8) (0 : Int) (w0 := w8) w8.heap.size ?hg_a42 (.tmp 40) (.tmp 41) 22 5 (.int .u8 0) 1 ?ho_a42 Tryd.underlying22 info5 rfl (by decide) (va) ([]) (L0) (A0) (L0.length) (c0) (fun _ => True) ?hs_a42 ?hx_a42 (fun _ _ => trivial) (HVa.out) ((Kd.C_below HC08.out HBa.out)) (HBa.out) (HBa.out).size ?hl_a42 ?_; (case hg_a42 => rfl); (case ho_a42 => rfl); (case hs_a42 => rfl); (case hx_a42 => rfl); (case hl_a42 => simp; have h_ := HLE0.out; omega); intro vb wb hvb hbb _ _; rw [List.nil_append] at hvb; have HVb := Aside0.mk hvb; have HBb := Aside0.mk hbb; clear hvb hbb)
    | ((with_reducible refine gate_dst (N := 44) rfl ?_); refine gate_guard (by rfl) ?_; dsimp only; refine Kd.R_append_row (Value.int .u8) (0 : Int) (w0 := w8) w8.heap.size ?hg_a44 (.tmp 42) (.tmp 43) 22 5 (.int .u8 0) 1 ?ho_a44 Tryd.underlying22 info5 rfl (by decide) (vb) (L0) (L1) (A1) (L1.length) (c1) (fun _ => True) ?hs_a44 ?hx_a44 (fun _ _ => trivial) (HVb.out) ((Kd.C_below HC18.out HBb.out)) (HBb.out) (HBb.out).size ?hl_a44 ?_; (case hg_a44 => rfl); (case ho_a44 => rfl); (case hs_a44 => rfl); (case hx_a44 => rfl); (case hl_a44 => have h_ := HLE0.out; have h1_ := HLE1.out; omega); intro vc wc_ hvc hbc hgc _; rw [← HL01.out] at hvc; obtain ⟨Ac, cc, rfl, hcc, hCc⟩ := Kd.R_reads hvc; have HCc := Aside0.mk hCc; have HLc := Aside0.mk hcc; have HBc := Aside0.mk hbc; clear hvc hbc hcc hCc)
    | fail)
  refine (digest_calls Ac cc L01 _ (HG8.out.below HBc.out) HCc.out HLc.out HN01.out.2 (by have h_ := HN01.out.1; omega)).mono ?_
  rintro e wz ⟨rfl, hb⟩
  have HD2 := Aside0.mk (below_step HBc.out hb)
  clear hb HD1 HBa HBb HBc HVa HVb HCc HLc
  go_wp2_with (first
    | ((with_reducible refine gate_dst (N := 49) rfl ?_); refine gate_guard (by rfl) ?_; dsimp only; refine wpList_load_row ?hgd_49 40 (.tmp 10) ?ho_49 g2 ?hx_49 40 (sv (St (L02))) (0, 0) ?d_49 ?hg_49 ?hu_49 ?hd_49 ?hi_49 ?_; (case hgd_49 => rfl); (case ho_49 => rfl); (case hx_49 => rfl); (case hg_49 => exact blk_below HS2.out HD2.out); (case hu_49 => exact Tryd.underlying40); (case hd_49 => rfl); (case hi_49 => rw [sv_size _ (St_r _)]; exact size40))
    | fail)
  refine (sum_calls (L02) _ (HG8.out.below HD2.out) HN02.out.2 (by have h_ := HN02.out.1; omega)).mono ?_
  rintro e wz ⟨rfl, hb⟩
  have HD3 := Aside0.mk (below_step HD2.out hb)
  clear hb HD2
  go_wp2_with (first
    | ((with_reducible refine gate_dst (N := 51) rfl ?_); refine gate_guard (by rfl) ?_; dsimp only; refine Kd.R_lit (Kd.int .u8) (w0 := w8) w8.heap.size 5 ?hg_l51 (N := 51) ?hd_l51 (xs := ([] : List Int)) (inner := []) (ok := fun _ => True) (okp := fun _ => True) ?hr_l51 ?hp_l51 (fun _ hk => hk) trivial HD3.out HD3.out.size (by simp) ?_; (case hd_l51 => rfl); (case hg_l51 => rfl); (case hr_l51 => first | (go_simp; done) | (go_simp; rfl)); (case hp_l51 => exact (Reps.none _ _)); intro va wa hva hba _ _; have HVa := Aside0.mk hva; have HBa := Aside0.mk hba; clear hva hba)
    | ((with_reducible refine gate_dst (N := 53) rfl ?_); refine gate_guard (by rfl) ?_; dsimp only; refine Kd.R_append_row (Value.int .u8) (0 : Int) (w0 := w8) w8.heap.size ?hg_a53 (.tmp 51) (.tmp 52) 22 5 (.int .u8 0) 1 ?ho_a53 Tryd.underlying22 info5 rfl (by decide) (va) ([]) (L0) (A0) (L0.length) (c0) (fun _ => True) ?hs_a53 ?hx_a53 (fun _ _ => trivial) (HVa.out) ((Kd.C_below HC08.out HBa.out)) (HBa.out) (HBa.out).size ?hl_a53 ?_; (case hg_a53 => rfl); (case ho_a53 => rfl); (case hs_a53 => rfl); (case hx_a53 => rfl); (case hl_a53 => simp; have h_ := HLE0.out; omega); intro vb wb hvb hbb _ _; rw [List.nil_append] at hvb; have HVb := Aside0.mk hvb; have HBb := Aside0.mk hbb; clear hvb hbb)
    | ((with_reducible refine gate_dst (N := 55) rfl ?_); refine gate_guard (by rfl) ?_; dsimp only; refine Kd.R_append_row (Value.int .u8) (0 : Int) (w0 := w8) w8.heap.size ?hg_a55 (.tmp 53) (.tmp 54) 22 5 (.int .u8 0) 1 ?ho_a55 Tryd.underlying22 info5 rfl (by decide) (vb) (L0) (L2) (A2) (L2.length) (c2) (fun _ => True) ?hs_a55 ?hx_a55 (fun _ _ => trivial) (HVb.out) ((Kd.C_below HC28.out HBb.out)) (HBb.out) (HBb.out).size ?hl_a55 ?_; (case hg_a55 => rfl); (case ho_a55 => rfl); (case hs_a55 => rfl); (case hx_a55 => rfl); (case hl_a55 => have h_ := HLE0.out; have h1_ := HLE2.out; omega); intro vc wc_ hvc hbc hgc _; rw [← HL02.out] at hvc; obtain ⟨Ac, cc, rfl, hcc, hCc⟩ := Kd.R_reads hvc; have HCc := Aside0.mk hCc; have HLc := Aside0.mk hcc; have HBc := Aside0.mk hbc; clear hvc hbc hcc hCc)
    | fail)
  refine (digest_calls Ac cc L02 _ (HG8.out.below HBc.out) HCc.out HLc.out HN02.out.2 (by have h_ := HN02.out.1; omega)).mono ?_
  rintro e wz ⟨rfl, hb⟩
  have HD4 := Aside0.mk (below_step HBc.out hb)
  clear hb HD3 HBa HBb HBc HVa HVb HCc HLc
  go_wp2_with (first
    | ((with_reducible refine gate_dst (N := 60) rfl ?_); refine gate_guard (by rfl) ?_; dsimp only; refine wpList_load_row ?hgd_60 40 (.tmp 8) ?ho_60 g0 ?hx_60 40 (sv (St (L0))) (0, 0) ?d_60 ?hg_60 ?hu_60 ?hd_60 ?hi_60 ?_; (case hgd_60 => rfl); (case ho_60 => rfl); (case hx_60 => rfl); (case hg_60 => exact blk_below HS0.out HD4.out); (case hu_60 => exact Tryd.underlying40); (case hd_60 => rfl); (case hi_60 => rw [sv_size _ (St_r _)]; exact size40))
    | fail)
  refine (sum_calls (L0) _ (HG8.out.below HD4.out) HB0.out (by have h_ := HLE0.out; omega)).mono ?_
  rintro e wz ⟨rfl, hb⟩
  have HD5 := Aside0.mk (below_step HD4.out hb)
  clear hb HD4
  go_wp2_with (fail)
  refine (digest_calls A0 c0 L0 _ (HG8.out.below HD5.out) (Kd.C_below HC08.out HD5.out) HLE0.out.1 HB0.out (by have h_ := HLE0.out; omega)).mono ?_
  rintro e wz ⟨rfl, hb⟩
  have HD6 := Aside0.mk (below_step HD5.out hb)
  clear hb HD5
  go_wp2_with (fail)
  go_ret
  exact ⟨rfl, below_step HBw8.out HD6.out⟩
end Go.Proofs.YtanafhccflmdkaaDoor.Ext
