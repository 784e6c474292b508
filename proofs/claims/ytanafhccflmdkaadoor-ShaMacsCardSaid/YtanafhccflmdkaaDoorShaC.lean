/- States: Start, More. -/
import Derived.Test.YtanafhccflmdkaaDoorShaB
namespace Go.Proofs.YtanafhccflmdkaaDoor.Ext
open Go.RowKit Go.Proofs.YtanafhccflmdkaaDoorW.PrintWords Go.Proofs.YtanafhccflmdkaaDoorW.PrintLast Go.Proofs.YtanafhccflmdkaaDoorW.PrintMore
set_option linter.unusedVariables false
set_option linter.unusedSimpArgs false
attribute [local go_sem] max2_int min2_int max_two min_two
def Bytes (l : List Int) : Prop := ∀ x ∈ l, 0 ≤ x ∧ x < 256
def sv (s : Sta) : Array Value := sc s.d.ws s.r s.n
theorem Glob.below {w w1 : World} (h : Glob w) (hb : Below w.heap.size w w1) : Glob w1 := fun j hj => pw_cell_below hb (h j hj)
theorem Glob.alloc {w : World} (h : Glob w) (o : Obj) : Glob (w.alloc o) := h.below (below_alloc (Below.refl _ _) o)
theorem size40 : (Tryd.prog.info? 40).map (·.size) = some 73 := by kernel_rfl
theorem size25 : (Tryd.prog.info? 25).map (·.size) = some 32 := by kernel_rfl
def Z40 : Array Value := (List.replicate 8 (Value.int .u32 0) ++ List.replicate 64 (Value.int .u8 0) ++ [Value.int .u64 0]).toArray
def Z25 : Array Value := (List.replicate 32 (Value.int .u8 0)).toArray
theorem zero40 (w : World) : (zeroValue 40).run Tryd.prog w = .ok (.agg Z40) w := by kernel_rfl
theorem zero25 (w : World) : (zeroValue 25).run Tryd.prog w = .ok (.agg Z25) w := by kernel_rfl
theorem gr_refl (w : World) (r : Option Nat) : w.grownBy w r := ⟨rfl, rfl, rfl, Nat.le_refl _, fun _ _ _ => rfl⟩
theorem gr_below {w w1 : World} {g B : Nat} (h : w.grownBy w1 (some g)) (hB : B ≤ g) (hs : B ≤ w.heap.size) : Below B w w1 := ⟨h.os, h.tape, h.output, h.size, fun k hk => h.block k (by omega) (by simp; omega)⟩
theorem gr_blk {w w1 : World} {g k : Nat} {o : Obj} (h : w.grownBy w1 (some g)) (hk : w.heap[k]? = some o) (hn : k ≠ g) : w1.heap[k]? = some o := (h.block k (blk_lt hk) (by simpa using hn)).trans hk
theorem gr_setRow (w : World) (g : Nat) (cs : Array Value) : w.grownBy (w.setRow g cs) (some g) := ⟨rfl, rfl, rfl, by simp, fun k hk hr => setRow_other w g k cs (by simpa using hr)⟩
/-- A whole variable stored: the world behind it is a letter. -/
theorem st_row {P : Program} {ops : Array Oper} {rest : List Oper} {o : Oper} {a : Act} {w : World} {Q : Exit → Act → World → Prop} (hgd : o.guard = none) (ty : TypeId) (x y : Operand) (ho : o.op = .store ty x y)
    (g : Nat) (cells : Array Value) (hx : a.eval x = .pointer (some ⟨g, 0, none⟩)) (hy : a.eval y = .agg cells)
    (t : TypeId) (old : Array Value) (hg : w.heap[g]? = some (.cells old t (0, 0))) (hi : (P.info? ty).map (·.size) = some cells.size)
    (hold : old.size = cells.size) (h1 : cells.all (·.oneCell') = true)
    (h : ∀ w', Aside0 (w'.heap[g]? = some (.cells cells t (0, 0))) → Aside0 (w.grownBy w' (some g)) → wpList P ops Q rest (a.put o.dst undef) w') : wpList P ops Q (o :: rest) a w :=
  wpList_store_row hgd ty x y ho g cells hx hy t old hg hi hold h1 (h _ ⟨setRow_heap w g old cells t (0, 0) hg⟩ ⟨gr_setRow w g cells⟩)
theorem sv_size (s : Sta) (h : s.r.length = 64) : (sv s).size = 73 := by unfold sv sc D8.ws; simp; omega
theorem sv_one (s : Sta) : (sv s).all (·.oneCell') = true := by
  rw [Array.all_eq_true_iff_forall_mem]
  intro x hx
  unfold sv sc at hx
  simp only [List.mem_toArray, List.mem_append, List.mem_map, List.mem_singleton] at hx
  rcases hx with (⟨y, _, rfl⟩ | ⟨y, _, rfl⟩) | rfl <;> rfl
set_option maxHeartbeats 4000000 in
set_option maxRecDepth 100000 in
theorem start_calls (w : World) : Calls Tryd.prog 15 #[] w fun e w' => e = .returned (.agg (sv st0)) ∧ Below w.heap.size w w' := by
  have hz := zero40
  obtain ⟨Z, hZ⟩ : ∃ Z, Z = Z40 := ⟨_, rfl⟩
  rw [← hZ] at hz
  have hs : Z.size = 73 := by rw [hZ]; rfl
  have HZ := Aside0.mk hZ
  clear hZ
  go_enter Tryd.func15, Tryd.ntmps15
  go_wp2_with ((with_reducible refine gate_store (p := 0) rfl ?_); refine st_row ?hgd_0 40 (.tmp 0) (.tmp 2) ?ho_0 w.heap.size (sv st0) ?hx_0 ?hy_0 40 Z ?hg_0 ?hi_0 ?hold_0 (sv_one _) ?_; (case hgd_0 => rfl); (case ho_0 => rfl); (case hx_0 => rfl); (case hy_0 => rw [HZ.out]; rfl); (case hg_0 => exact blk_new _ _); (case hi_0 => rw [sv_size st0 rfl]; exact size40); (case hold_0 => rw [hs, sv_size st0 rfl]); intro w2 hb2 hg2)
  refine bodyPost_ret (results_cell_row (fn := Tryd.f15) rfl _ _ w.heap.size 40 _ (0, 0) _ rfl hb2.out Tryd.underlying40 rfl (by rw [sv_size st0 rfl]; exact size40)) rfl ?_
  exact ⟨rfl, (below_alloc (Below.refl _ _) _).trans (gr_below hg2.out (Nat.le_refl _) (by simp))⟩
theorem sc_n (ws : List (BitVec 32)) (r : List Int) (n : Int) (hw : ws.length = 8) (hr : r.length = 64) : (sc ws r n)[72]? = some (.int .u64 n) := by
  unfold sc
  rw [List.getElem?_toArray, List.getElem?_append_right (by simp; omega)]
  simp [hw, hr]
theorem sc_setn (ws : List (BitVec 32)) (r : List Int) (n n' : Int) (hw : ws.length = 8) (hr : r.length = 64) : (sc ws r n).setIfInBounds 72 (.int .u64 n') = sc ws r n' := by
  unfold sc
  apply Array.ext'
  rw [Array.toList_setIfInBounds]
  simp only []
  rw [List.set_append_right _ _ (by simp; omega)]
  simp [hw, hr]
theorem sc_spl (ws : List (BitVec 32)) (r p : List Int) (n : Int) (at_ : Nat) (hw : ws.length = 8) (h : at_ + p.length ≤ r.length) :
    ((sc ws r n).toList.take (8 + at_) ++ (p.map (Value.int .u8) ++ (sc ws r n).toList.drop (8 + at_ + (p.map (Value.int .u8)).length))).toArray = sc ws (spl r at_ p) n := by
  unfold sc spl
  congr 1
  simp only [List.length_map]
  have e1 : (ws.map V32).length = 8 := by simpa using hw
  rw [List.append_assoc (ws.map V32), List.take_append, e1, List.take_of_length_le (by omega), List.drop_append, e1, List.drop_of_length_le (by omega), show 8 + at_ - 8 = at_ by omega, show 8 + at_ + p.length - 8 = at_ + p.length by omega]
  rw [List.take_append_of_le_length (by simp; omega), List.drop_append_of_le_length (by simp; omega)]
  simp [List.map_take, List.map_drop]
/-- A copy into a block: the world behind it is a letter. -/
theorem cp_row {P : Program} {ops : Array Oper} {rest : List Oper} {o : Oper} {a : Act} {w : World} {Q : Exit → Act → World → Prop} (hgd : o.guard = none) (d s : Operand) (dT sT : TypeId)
    (ho : o.op = .call { callee := .builtin .copy, args := #[d, s], argTypes := #[dT, sT] }) (elem : TypeId) (hu : P.underlying dT = some (.slice elem)) (hsz : (P.info? elem).map (·.size) = some 1)
    (g off dLen dCap : Nat) (ad : Addr) (sLen sCap : Nat) (hd : a.eval d = .slice (some ⟨g, off, none⟩) dLen dCap) (hs : a.eval s = .slice (some ad) sLen sCap)
    (cur : Array Value) (t : TypeId) (hg : w.heap[g]? = some (.cells cur t (0, 0))) (cs : List Value) (hn : cs.length = Nat.min sLen dLen)
    (hsrc : ∀ j v, cs[j]? = some v → w.cell? (ad.add j) = some v) (hfit : off + cs.length ≤ cur.size) (h1 : ∀ v ∈ cs, v.oneCell' = true)
    (h : ∀ w', Aside0 (w'.heap[g]? = some (.cells (cur.toList.take off ++ (cs ++ cur.toList.drop (off + cs.length))).toArray t (0, 0))) → Aside0 (w.grownBy w' (some g)) → wpList P ops Q rest (a.put o.dst (.int .i64 (cs.length : Int))) w') :
    wpList P ops Q (o :: rest) a w :=
  wpList_copy_own hgd d s dT sT ho elem hu hsz g off dLen dCap ad sLen sCap hd hs cur t hg cs hn hsrc hfit h1 (h _ ⟨setRow_heap w g _ _ t _ hg⟩ ⟨gr_setRow w g _⟩)
theorem slice_from (a : Addr) (i : Nat) (h : i < 64) (W : World) : (Instr.sliceAt 37 (.pointer (some a)) (some (.int .i64 (i : Int))) none none).run Tryd.prog W = .ok (.slice (some (a.add i)) (64 - i) (64 - i)) W := by
  obtain ⟨x, hx, hs⟩ := Option.map_eq_some_iff.1 (show (Tryd.prog.info? 5).map (·.size) = some 1 by kernel_rfl)
  have hne : ¬ (64 = i) := by omega
  have h2 : (i : Int) ≤ 64 := by omega
  simp [Instr.sliceAt, Instr.sureAddr, slicedAt, run_underlying Tryd.underlying37, Instr.sliceBounds, run_sliceBound, sliced, sizeOf, typeInfo, hx, hs, hne, h2]
theorem add_off (g o i : Nat) : (⟨g, o, none⟩ : Addr).add i = ⟨g, o + i, none⟩ := by unfold Addr.add; split <;> simp_all
theorem size5 : (Tryd.prog.info? 5).map (·.size) = some 1 := by kernel_rfl
theorem more_bytes (p : List Int) : ∀ S : Sta, Bytes S.r → Bytes p → Bytes (more S p).r := by
  induction p with
  | nil => intro S h _; exact h
  | cons c p ih =>
    intro S h hp
    show Bytes (more (step S c) p).r
    refine ih _ ?_ (fun x hx => hp x (List.mem_cons_of_mem _ hx))
    rw [step_r]
    intro x hx
    rcases List.mem_or_eq_of_mem_set hx with hx | rfl
    · exact h x hx
    · exact hp _ (by simp)
/-- What More's loop holds. -/
structure M1 (w W : World) (g z : Nat) (S : Sta) (Z : Array Value) : Prop where
  blk : W.heap[g]? = some (.cells (sv S) 40 (0, 0))
  zer : W.heap[z]? = some (.cells Z 40 (0, 0))
  bel : Below w.heap.size w W
  lo : w.heap.size ≤ g
  gz : g ≠ z
theorem gr_trans {w w1 w2 : World} {r : Option Nat} (h : w.grownBy w1 r) (k : w1.grownBy w2 r) : w.grownBy w2 r :=
  ⟨k.os.trans h.os, k.tape.trans h.tape, k.output.trans h.output, Nat.le_trans h.size k.size, fun i hi hr => (k.block i (by have := h.size; omega) hr).trans (h.block i hi hr)⟩
theorem M1.step {w W W' : World} {g z : Nat} {S S' : Sta} {Z : Array Value} (h : M1 w W g z S Z) (hg : W.grownBy W' (some g)) (hb : W'.heap[g]? = some (.cells (sv S') 40 (0, 0))) : M1 w W' g z S' Z :=
  ⟨hb, gr_blk hg h.zer h.gz.symm, h.bel.trans (gr_below hg h.lo h.bel.size), h.lo, h.gz⟩
theorem spl_bytes {r p : List Int} {at_ : Nat} (hr : Bytes r) (hp : Bytes p) : Bytes (spl r at_ p) := by
  intro x hx
  unfold spl at hx
  rcases List.mem_append.1 hx with hx | hx
  · rcases List.mem_append.1 hx with hx | hx
    · exact hr x (List.mem_of_mem_take hx)
    · exact hp x hx
  · exact hr x (List.mem_of_mem_drop hx)
set_option maxHeartbeats 4000000 in
set_option maxRecDepth 100000 in
theorem more_calls (s : Sta) (A : Option Addr) (c : Nat) (b : List Int) (w : World) (hG : Glob w) (hC : Kd.C (Kd.int .u8) w A b.length b) (hc : b.length ≤ c) (hb : Bytes b) (hs : s.r.length = 64) (hsb : Bytes s.r) (hn : s.n + b.length < 1000000000) :
    Calls Tryd.prog 17 #[.agg (sv s), .slice A b.length c] w fun e w' => e = .returned (.agg (sv (more s b))) ∧ Below w.heap.size w w' := by
  have hz := zero40
  obtain ⟨Z, hZ⟩ : ∃ Z, Z = Z40 := ⟨_, rfl⟩
  rw [← hZ] at hz
  have hZs : Z.size = 73 := by rw [hZ]; rfl
  obtain ⟨SV, hSV⟩ : ∃ SV, SV = sv s := ⟨_, rfl⟩
  rw [← hSV]
  have HSV := Aside0.mk hSV
  have HG := Aside0.mk hG
  have HC := Aside0.mk hC
  have HB := Aside0.mk hb
  have HS := Aside0.mk hs
  have HSB := Aside0.mk hsb
  have HN := Aside0.mk hn
  have HCC := Aside0.mk hc
  clear hZ hSV hG hC hb hs hsb hn hc
  go_enter Tryd.func17, Tryd.ntmps17
  go_wp2_with (fail)
  obtain ⟨g, hg⟩ : ∃ g, g = w.heap.size := ⟨_, rfl⟩
  obtain ⟨z, hz_⟩ : ∃ z, z = w.heap.size + 1 := ⟨_, rfl⟩
  obtain ⟨W1, hW1⟩ : ∃ W1, W1 = (w.alloc (Obj.cells SV 40)).alloc (Obj.cells Z 40) := ⟨_, rfl⟩
  rw [← hW1, ← hz_, ← hg]
  have HM := Aside0.mk (show M1 w W1 g z s Z from ⟨by rw [hW1, hg, ← HSV.out]; exact blk_alloc (blk_new _ _) _, by
    have e : z = (w.alloc (Obj.cells SV 40)).heap.size := by rw [hz_]; simp
    rw [hW1, e]; exact blk_new _ _, by rw [hW1]; exact below_alloc (below_alloc (Below.refl _ _) _) _, by omega, by omega⟩)
  have HGZ := Aside0.mk hg
  have HZL := Aside0.mk (show w.heap.size ≤ z by omega)
  clear hW1 hg hz_
  go_loopg [1] b.length (fun gm v1 w' => ∃ (m : List Int) (A' : Option Addr) (c' : Nat) (S : Sta), v1 = .slice A' m.length c' ∧ m.length = gm ∧ Aside0 (m.length ≤ c') ∧ Aside0 (Kd.C (Kd.int .u8) w A' m.length m) ∧ Aside0 (Bytes m) ∧ Aside0 (more S m = more s b ∧ S.r.length = 64 ∧ Bytes S.r ∧ S.n + m.length = s.n + b.length) ∧ Aside0 (M1 w w' g z S Z))
  case atStart => exact ⟨b, A, c, s, rfl, rfl, HCC, HC, HB, ⟨rfl, HS.out, HSB.out, rfl⟩, HM⟩
  case round =>
    obtain ⟨m, A', c', S, rfl, hm, HC', HCm, HBm, HE, HM'⟩ := hrel
    clear HM
    by_cases hlt : 0 < m.length
    · have d1 : decide ((0 : Int) < (m.length : Int)) = true := by simp only [decide_eq_true_eq]; omega
      obtain ⟨e1, e2, e3, e4⟩ := HE.out
      obtain ⟨N, hN⟩ : ∃ N, N = S.n := ⟨_, rfl⟩
      have hn := HN.out
      obtain ⟨at_, hat_⟩ : ∃ a, a = N % 64 := ⟨_, rfl⟩
      have hat : (N : Int) % 64 = (at_ : Int) := by omega
      have a0 : (0 : Int) ≤ (at_ : Int) := by omega
      have a1 : (at_ : Int) < 64 := by omega
      obtain ⟨k, hk⟩ : ∃ k, k = Nat.min m.length (64 - at_) := ⟨_, rfl⟩
      have hkm : k ≤ m.length := by rw [hk]; exact Nat.min_le_left _ _
      have hka : k ≤ 64 - at_ := by rw [hk]; exact Nat.min_le_right _ _
      have hk0 : 0 < k := by rw [hk]; exact Nat.lt_min.2 ⟨hlt, by omega⟩
      have c72 : wr.cell? ⟨g, 72, none⟩ = some (.int .u64 (N : Int)) := by rw [blk_cell HM'.out.blk, hN]; exact sc_n _ _ _ rfl e2
      have hsl := fun W => slice_from ⟨g, 8, none⟩ at_ (by omega) W
      rw [add_off] at hsl
      have N0 : (0 : Int) ≤ (N : Int) := by omega
      have N1 : (N : Int) < 1000000000 := by omega
      obtain ⟨ad, rfl, _⟩ := Kd.at_int HCm.out (0 : Int) (by omega) (by omega)
      obtain ⟨p, hp⟩ : ∃ p, p = m.take k := ⟨_, rfl⟩
      obtain ⟨rest, hrest⟩ : ∃ p, p = m.drop k := ⟨_, rfl⟩
      have hpl : p.length = k := by rw [hp, List.length_take]; omega
      have HP := Aside0.mk (show (p.map (Value.int .u8)).length = k by rw [List.length_map, hpl])
      have HSRC := Aside0.mk (show ∀ j v, (p.map (Value.int .u8))[j]? = some v → wr.cell? (ad.add j) = some v by
        intro j v hj
        have hC_ := Kd.C_below HCm.out HM'.out.bel
        obtain ⟨ad', he, hc⟩ := Kd.at_int hC_ (j : Int) (by omega) (by
          have := (List.getElem?_eq_some_iff.1 hj).1; rw [List.length_map, hpl] at this; omega)
        cases he
        rw [Int.toNat_natCast] at hc
        rw [hc, ← hj, List.getElem?_map, hp]
        have hjl : j < k := by have := (List.getElem?_eq_some_iff.1 hj).1; rw [List.length_map, hpl] at this; exact this
        rw [List.getElem?_take_of_lt hjl]
        have hjm : j < m.length := by omega
        simp [rd, List.getD_eq_getElem?_getD, hjm])
      have HKM := Aside0.mk (show k = Nat.min m.length (64 - at_) from hk)
      have HK := Aside0.mk (And.intro hk0 (And.intro hkm hka))
      have HSP := Aside0.mk (show at_ + p.length ≤ S.r.length by rw [hpl, e2]; omega)
      have HSL := Aside0.mk (show (spl S.r at_ p).length = 64 by rw [spl_len _ _ _ (by rw [hpl, e2]; omega), e2])
      obtain ⟨x5, hx5, hs5⟩ := Option.map_eq_some_iff.1 size5
      obtain ⟨A2, hA2⟩ : ∃ A2, A2 = (if c' = k then some ad else (some ad).map (·.add (k * 1))) := ⟨_, rfl⟩
      obtain ⟨c2, hc2⟩ : ∃ c2, c2 = c' - k := ⟨_, rfl⟩
      have hrl : rest.length = m.length - k := by rw [hrest, List.length_drop]
      have cut1 : ∀ W : World, (Instr.slice 22 (.slice (some ad) m.length c') (some (.int .i64 (k : Int))) none none).run Tryd.prog W = .ok (.slice A2 rest.length c2) W := by
        intro W
        rw [cut_from 22 5 .i64 Tryd.underlying22 hx5 1 hs5 (some ad) m.length c' (k : Int) (by omega) (by omega) W, Int.toNat_natCast, hA2, hc2, hrl]
      have HC2 := Aside0.mk (show Kd.C (Kd.int .u8) w A2 rest.length rest by
        have h_ := Kd.C_drop (m := k) HCm.out hkm HC'.out
        rw [← hrest] at h_; rw [hA2]; exact h_)
      have HL2 := Aside0.mk (show rest.length ≤ c2 by have := HC'.out; omega)
      have HSPLIT := Aside0.mk (show m = p ++ rest by rw [hp, hrest, List.take_append_drop])
      have HPL := Aside0.mk hpl
      have HRL := Aside0.mk hrl
      have kI0 : (0 : Int) ≤ (k : Int) := by omega
      have kI1 : (k : Int) ≤ 64 := by omega
      have HNS := Aside0.mk hN
      have HML := Aside0.mk hm
      have HAT := Aside0.mk hat_
      have HAT2 := Aside0.mk (show at_ = S.n % 64 by rw [hat_, hN])
      have HPB := Aside0.mk (show Bytes p by rw [hp]; exact fun x hx => HBm.out x (List.mem_of_mem_take hx))
      have HRB := Aside0.mk (show Bytes rest by rw [hrest]; exact fun x hx => HBm.out x (List.mem_of_mem_drop hx))
      clear e1 e2 e3 e4 hn hN hm hk hpl hp hrest hat_ hkm hka hk0 hx5 hs5 hA2 hc2 hrl
      have HMO := Aside0.mk (more_piece p S HE.out.2.1 (by rw [HPL.out]; exact HK.out.1) (by rw [HPL.out, ← HNS.out, ← HAT.out]; have h_ := HK.out; omega))
      by_cases hful : at_ + k = 64
      · have d2 : ((at_ : Int) + (k : Int) == 64) = true := by rw [beq_iff_eq]; omega
        have HFU := Aside0.mk hful
        clear hful
        go_wp2_with ((with_reducible refine gate_dst (N := 18) rfl ?_); refine cp_row ?hgd_18 (.tmp 16) (.tmp 17) 22 22 ?ho_18 5 Tryd.underlying22 size5 g (8 + at_) (64 - at_) (64 - at_) ad m.length c' ?hd_18 ?hs_18 (sv S) 40 ?hg_18 (p.map (Value.int .u8)) ?hn_18 ?hsrc_18 ?hfit_18 ?h1_18 ?_; (case hgd_18 => rfl); (case ho_18 => rfl); (case hd_18 => rfl); (case hs_18 => rfl); (case hg_18 => exact HM'.out.blk); (case hn_18 => rw [HP.out]; exact HKM.out); (case hsrc_18 => exact HSRC.out); (case hfit_18 => rw [HP.out, sv_size S HE.out.2.1]; have h_ := HK.out; omega); (case h1_18 => intro v hv; obtain ⟨y, _, rfl⟩ := List.mem_map.1 hv; rfl); intro w5 hb5 hg5; rw [HP.out]; have HB5 := Aside0.mk (show w5.heap[g]? = some (.cells (sc S.d.ws (spl S.r at_ p) S.n) 40 (0, 0)) by rw [← sc_spl S.d.ws S.r p S.n at_ rfl (HSP.out)]; exact hb5.out); have HG5 := hg5; clear hb5 hg5; have c72b : w5.cell? ⟨g, 72, none⟩ = some (.int .u64 (N : Int)) := (blk_cell HB5.out 72).trans ((sc_n S.d.ws (spl S.r at_ p) (S.n : Int) rfl HSL.out).trans (congrArg (fun z : Nat => some (Value.int .u64 (z : Int))) HNS.out.symm)); have f72 := blk_frozen HB5.out 72)
        have HB6 := Aside0.mk (blk_put HB5.out 72 (.int .u64 ((N : Int) + (k : Int))) (sc_setn S.d.ws (spl S.r at_ p) S.n _ rfl HSL.out))
        have HG6 := Aside0.mk (gr_set HG5.out (.inr rfl) 72 (.int .u64 ((N : Int) + (k : Int))))
        have HBL := Aside0.mk (HM'.out.bel.trans (gr_below HG6.out HM'.out.lo HM'.out.bel.size))
        refine (block_calls g S.d (spl S.r at_ p) ((N : Int) + (k : Int)) _ (HG.out.below HBL.out) HB6.out HSL.out (spl_bytes HE.out.2.2.1 HPB.out) (by have h1_ := HGZ.out; have h3_ := HG.out.pos; omega)).mono ?_
        rintro e w7 ⟨rfl, hb7, hg7⟩
        have HM7 := Aside0.mk (HM'.out.step (gr_trans HG6.out hg7) (S' := more S p) (by
          rw [HMO.out, ← HAT2.out, if_pos (by rw [HPL.out]; exact HFU.out)]
          unfold sv; rw [hb7, HPL.out, ← HNS.out]; simp only [Int.natCast_add]))
        clear hb7 hg7 c72b f72
        go_wp2_with (fail)
        go_roundg rest.length
        case measure => have h1_ := HRL.out; have h2_ := HK.out; have h3_ := HML.out; omega
        case rel => exact ⟨rest, A2, c2, more S p, rfl, rfl, HL2, HC2, HRB, ⟨by rw [← HE.out.1, ← more_append, ← HSPLIT.out], by rw [more_r]; exact HE.out.2.1, more_bytes p S HE.out.2.2.1 HPB.out, by rw [more_n, ← HE.out.2.2.2, HRL.out, HPL.out]; have h2_ := HK.out; omega⟩, HM7⟩
      · have d2 : ((at_ : Int) + (k : Int) == 64) = false := by rw [beq_eq_false_iff_ne]; omega
        have HFU := Aside0.mk hful
        clear hful
        go_wp2_with ((with_reducible refine gate_dst (N := 18) rfl ?_); refine cp_row ?hgd_19 (.tmp 16) (.tmp 17) 22 22 ?ho_19 5 Tryd.underlying22 size5 g (8 + at_) (64 - at_) (64 - at_) ad m.length c' ?hd_19 ?hs_19 (sv S) 40 ?hg_19 (p.map (Value.int .u8)) ?hn_19 ?hsrc_19 ?hfit_19 ?h1_19 ?_; (case hgd_19 => rfl); (case ho_19 => rfl); (case hd_19 => rfl); (case hs_19 => rfl); (case hg_19 => exact HM'.out.blk); (case hn_19 => rw [HP.out]; exact HKM.out); (case hsrc_19 => exact HSRC.out); (case hfit_19 => rw [HP.out, sv_size S HE.out.2.1]; have h_ := HK.out; omega); (case h1_19 => intro v hv; obtain ⟨y, _, rfl⟩ := List.mem_map.1 hv; rfl); intro w5 hb5 hg5; rw [HP.out]; have HB5 := Aside0.mk (show w5.heap[g]? = some (.cells (sc S.d.ws (spl S.r at_ p) S.n) 40 (0, 0)) by rw [← sc_spl S.d.ws S.r p S.n at_ rfl (HSP.out)]; exact hb5.out); have HG5 := hg5; clear hb5 hg5; have c72b : w5.cell? ⟨g, 72, none⟩ = some (.int .u64 (N : Int)) := (blk_cell HB5.out 72).trans ((sc_n S.d.ws (spl S.r at_ p) (S.n : Int) rfl HSL.out).trans (congrArg (fun z : Nat => some (Value.int .u64 (z : Int))) HNS.out.symm)); have f72 := blk_frozen HB5.out 72)
        have HM7 := Aside0.mk (HM'.out.step (gr_set HG5.out (.inr rfl) 72 (.int .u64 ((N : Int) + (k : Int)))) (S' := more S p) (by
          rw [HMO.out, ← HAT2.out, if_neg (by rw [HPL.out]; exact HFU.out)]
          unfold sv; rw [blk_put HB5.out 72 (.int .u64 ((N : Int) + (k : Int))) (sc_setn S.d.ws (spl S.r at_ p) S.n _ rfl HSL.out), HPL.out, ← HNS.out]; simp only [Int.natCast_add]))
        clear c72b f72
        go_roundg rest.length
        case measure => have h1_ := HRL.out; have h2_ := HK.out; have h3_ := HML.out; omega
        case rel => exact ⟨rest, A2, c2, more S p, rfl, rfl, HL2, HC2, HRB, ⟨by rw [← HE.out.1, ← more_append, ← HSPLIT.out], by rw [more_r]; exact HE.out.2.1, more_bytes p S HE.out.2.2.1 HPB.out, by rw [more_n, ← HE.out.2.2.2, HRL.out, HPL.out]; have h2_ := HK.out; omega⟩, HM7⟩
    · obtain rfl : m = [] := List.eq_nil_of_length_eq_zero (by omega)
      have d1 : decide ((0 : Int) < (([] : List Int).length : Int)) = false := by decide
      have HSE := Aside0.mk (show S = more s b from HE.out.1)
      have HS2 := Aside0.mk HE.out.2.1
      clear hm
      go_wp2_with (first | ((with_reducible refine gate_dst (N := 36) rfl ?_); refine wpList_load_row ?hgd_36 40 (.tmp 2) ?ho_36 g ?hx_36 40 (sv S) (0, 0) ?d_36 ?hg_36 ?hu_36 ?hd_36 ?hi_36 ?_; (case hgd_36 => rfl); (case ho_36 => rfl); (case hx_36 => rfl); (case hg_36 => exact HM'.out.blk); (case hu_36 => exact Tryd.underlying40); (case hd_36 => rfl); (case hi_36 => rw [sv_size S HS2.out]; exact size40)) | ((with_reducible refine gate_store (p := 4) rfl ?_); refine st_row ?hgd_4 40 (.tmp 4) (.tmp 36) ?ho_4 z (sv S) ?hx_4 ?hy_4 40 Z ?hg_4 ?hi_4 ?hold_4 (sv_one _) ?_; (case hgd_4 => rfl); (case ho_4 => rfl); (case hx_4 => rfl); (case hy_4 => rfl); (case hg_4 => exact HM'.out.zer); (case hi_4 => rw [sv_size S HS2.out]; exact size40); (case hold_4 => rw [hZs, sv_size S HS2.out]); intro w8 hb8 hg8))
      refine bodyPost_ret (results_cell_row (fn := Tryd.f17) rfl _ _ z 40 _ (0, 0) _ rfl hb8.out Tryd.underlying40 rfl (by rw [sv_size S HS2.out]; exact size40)) rfl ?_
      exact ⟨by rw [HSE.out], HM'.out.bel.trans (gr_below hg8.out HZL.out HM'.out.bel.size)⟩
end Go.Proofs.YtanafhccflmdkaaDoor.Ext
