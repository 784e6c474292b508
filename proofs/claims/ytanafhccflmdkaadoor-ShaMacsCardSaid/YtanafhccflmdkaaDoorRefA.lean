/- The reference's block is ours: plain law. -/
import Derived.Test.YtanafhccflmdkaaDoorXax13
import Derived.Test.YtanafhccflmdkaaDoorShaC
namespace Go.Proofs.YtanafhccflmdkaaDoor.Ref
open Go.RowKit Go.Proofs.YtanafhccflmdkaaDoorW.PrintWords Go.Proofs.YtanafhccflmdkaaDoorW.PrintLast Go.Proofs.YtanafhccflmdkaaDoorW.PrintMore
open Go.Proofs.YtanafhccflmdkaaDoor.Xa
open Go.Proofs.YtanafhccflmdkaaDoor.Ext (Bytes B B_range xorB andB orB addB shlB shrB ofInt_B D8 F rnds rnd sch nxt word4 push rot ss gs be ba tt uu K roots sch_len sch_succ rnds_succ addB2 wrapB)
set_option linter.unusedVariables false
set_option linter.unusedSimpArgs false
theorem w64 (x : Int) (h0 : -9223372036854775808 ≤ x) (h1 : x < 9223372036854775808) : wrap64 x = x := by unfold wrap64; omega
theorem strOf_size (l : List Int) : (strOfNums l).size = l.length := by simp [strOfNums, ByteArray.size]
theorem strOf_cut (b : List Int) (lo hi : Nat) : (strOfNums b).extract lo hi = strOfNums ((b.take hi).drop lo) := by
  apply ByteArray.ext
  apply Array.ext'
  simp [strOfNums, List.map_drop, List.map_take, List.take_drop]
  by_cases h : lo ≤ hi
  · rw [show lo + (hi - lo) = hi by omega]
  · rw [show hi - lo = 0 by omega, List.drop_eq_nil_of_le, List.drop_eq_nil_of_le] <;> simp <;> omega
theorem bt_str (l : List Int) (hl : Bytes l) (i : Nat) (hi : i < l.length) : bt (strOfNums l) i = l[i] := by
  have hs : (strOfNums l).size = l.length := strOf_size l
  have hx := hl l[i] (List.getElem_mem hi)
  unfold bt
  rw [dif_pos (by simp [hs, hi])]
  simp only [strOfNums, ByteArray.getElem_eq_getElem_data, List.getElem_toArray, List.getElem_map, Int.toNat_natCast]
  rw [UInt8.toNat_ofNat']; omega
theorem strOf_append (a b : List Int) : strOfNums (a ++ b) = strOfNums a ++ strOfNums b := by
  apply ByteArray.ext
  simp [strOfNums]
theorem right_B (x : BitVec 32) (n : Nat) (h0 : 0 < n) (h1 : n < 32) : transeptref03_right.f (B x) (n : Int) = some (B (rot x n)) := by
  unfold transeptref03_right.f
  have e : IntKind.u64.wrap (32 - (n : Int)) = ((32 - n : Nat) : Int) := by rw [IntKind.wrap_u64]; omega
  rw [e, if_pos (by omega), if_pos (by omega)]
  unfold shr shl rot
  have b1 : min (n : Int).toNat IntKind.u32.bits = n := by rw [Int.toNat_natCast, show IntKind.u32.bits = 32 from rfl]; omega
  have b2 : min (((32 - n : Nat) : Int)).toNat IntKind.u32.bits = 32 - n := by rw [Int.toNat_natCast, show IntKind.u32.bits = 32 from rfl]; omega
  rw [b1, b2, shrB, shlB, orB, BitVec.or_comm]
theorem push_add (x : BitVec 32) (c : Int) (h0 : 0 ≤ c) (h1 : c < 256) : (B x * 256 % 4294967296 + c % 4294967296) % 4294967296 = B (push x c) := by
  obtain ⟨m, rfl⟩ := Int.eq_ofNat_of_zero_le h0
  unfold push B
  have hm : m < 256 := by omega
  have e1 : (BitVec.ofInt 32 (m : Int)).toNat = m := by simp; omega
  rw [BitVec.toNat_or, e1, BitVec.toNat_shiftLeft, Nat.shiftLeft_eq]
  have e2 : (x.toNat * 2 ^ 8) % 2 ^ 32 = (x.toNat % 2 ^ 24) * 2 ^ 8 := by omega
  rw [e2]
  have e3 : x.toNat % 2 ^ 24 * 2 ^ 8 ||| m = x.toNat % 2 ^ 24 * 2 ^ 8 + m := by
    rw [← Nat.shiftLeft_eq, Nat.shiftLeft_add_eq_or_of_lt (by omega)]
  rw [e3]
  omega
/-- Four bytes. -/
theorem word_B (s : ByteArray) (hs : s.size = 4) (c0 c1 c2 c3 : Int) (h0 : bt s 0 = c0) (h1 : bt s 1 = c1) (h2 : bt s 2 = c2) (h3 : bt s 3 = c3) (hb : ∀ c ∈ [c0, c1, c2, c3], 0 ≤ c ∧ c < 256) (k : Nat) :
    transeptref03_word.f (k + 5) s = some (B ([c0, c1, c2, c3].foldl push 0#32)) := by
  unfold transeptref03_word.f
  have st : ∀ (n : Nat) (x : BitVec 32) (i : Nat) (c : Int), i < 4 → bt s (i : Int) = c → 0 ≤ c → c < 256 → transeptref03_word.l0 (n + 1) s (B x) (i : Int) = transeptref03_word.l0 n s (B (push x c)) ((i + 1 : Nat) : Int) := by
    intro n x i c hi hc h0 h1
    have e : transeptref03_word.l0 (n + 1) s (B x) (i : Int) = if (i : Int) < 4 then (if 0 ≤ (i : Int) then (if (i : Int) < (s.size : Int) then (transeptref03_word.l0 n s ((((B x * 256) % 4294967296) + ((bt s (i : Int)) % 4294967296)) % 4294967296) (wrap64 ((i : Int) + 1))) else none) else none) else (some (B x)) := rfl
    rw [e, if_pos (by omega), if_pos (by omega), if_pos (by omega), hc, push_add x c h0 h1, w64 _ (by omega) (by omega)]
    rfl
  have e0 : (0 : Int) = B 0#32 := rfl
  have a0 := hb c0 (by simp)
  have a1 := hb c1 (by simp)
  have a2 := hb c2 (by simp)
  have a3 := hb c3 (by simp)
  show transeptref03_word.l0 (k + 4 + 1) s (B 0#32) ((0 : Nat) : Int) = _
  rw [st (k + 4) _ 0 c0 (by omega) h0 a0.1 a0.2, st (k + 3) _ 1 c1 (by omega) h1 a1.1 a1.2, st (k + 2) _ 2 c2 (by omega) h2 a2.1 a2.2, st (k + 1) _ 3 c3 (by omega) h3 a3.1 a3.2]
  rfl
theorem rd_B (l : List (BitVec 32)) (i : Nat) : rd (l.map B) (i : Int) = B (l.getD i 0) := by
  unfold rd
  rw [Int.toNat_natCast, List.getD_eq_getElem?_getD, List.getD_eq_getElem?_getD, List.getElem?_map]
  cases l[i]? <;> rfl
theorem take4 (b : List Int) (p : Nat) (h : p + 4 ≤ b.length) : (b.take (p + 4)).drop p = [b.getD p 0, b.getD (p + 1) 0, b.getD (p + 2) 0, b.getD (p + 3) 0] ∧ (b.drop p).take 4 = [b.getD p 0, b.getD (p + 1) 0, b.getD (p + 2) 0, b.getD (p + 3) 0] := by
  have h2 : (b.drop p).take 4 = [b.getD p 0, b.getD (p + 1) 0, b.getD (p + 2) 0, b.getD (p + 3) 0] := by
    have gg : ∀ q, q < b.length → b[q]? = some (b.getD q 0) := fun q hq => by simp [List.getD_eq_getElem?_getD, List.getElem?_eq_getElem hq]
    apply List.ext_getElem?
    intro j
    by_cases hj : j < 4
    · rw [List.getElem?_take_of_lt hj, List.getElem?_drop, gg _ (by omega)]
      have : j = 0 ∨ j = 1 ∨ j = 2 ∨ j = 3 := by omega
      rcases this with rfl | rfl | rfl | rfl <;> rfl
    · rw [List.getElem?_eq_none (by simp; omega), List.getElem?_eq_none (by simp; omega)]
  refine ⟨?_, h2⟩
  rw [← h2, List.drop_take]
  congr 1
  omega
/-- A word of a block. -/
theorem word_at (b : List Int) (hb : Bytes b) (hl : b.length = 64) (i : Nat) (hi : i < 16) (k : Nat) (hk : 5 ≤ k) : transeptref03_word.f k ((strOfNums b).extract (4 * i) (4 * i + 4)) = some (B (word4 b i)) := by
  obtain ⟨k, rfl⟩ : ∃ m, k = m + 5 := ⟨k - 5, by omega⟩
  rw [strOf_cut]
  obtain ⟨e1, e2⟩ := take4 b (4 * i) (by omega)
  unfold word4
  rw [e1, e2]
  have hbb : Bytes [b.getD (4 * i) 0, b.getD (4 * i + 1) 0, b.getD (4 * i + 2) 0, b.getD (4 * i + 3) 0] := by
    rw [← e1]
    exact fun x hx => hb x (List.mem_of_mem_take (List.mem_of_mem_drop hx))
  exact word_B _ (strOf_size _) _ _ _ _ (bt_str _ hbb 0 (by simp)) (bt_str _ hbb 1 (by simp)) (bt_str _ hbb 2 (by simp)) (bt_str _ hbb 3 (by simp)) hbb k
theorem notB' (x : BitVec 32) : (4294967295 - B x) % 4294967296 = B (~~~ x) := by
  unfold B
  rw [BitVec.toNat_not]
  have := x.isLt
  omega
theorem l0_step (b : List Int) (hb : Bytes b) (hl : b.length = 64) (d rt : List Int) (k i : Nat) (hk : 5 ≤ k) (hi : i < 64) :
    transeptref03_block.l0 (k + 1) d (strOfNums b) rt ((sch b i).map B) (i : Int) = transeptref03_block.l0 k d (strOfNums b) rt ((sch b (i + 1)).map B) ((i + 1 : Nat) : Int) := by
  have hlen : ((sch b i).map B).length = i := by rw [List.length_map, sch_len]
  have e8 : wrap64 ((i : Int) + 1) = ((i + 1 : Nat) : Int) := by rw [w64 _ (by omega) (by omega)]; rfl
  rw [sch_succ, List.map_append]
  rw [transeptref03_block.l0]
  rw [if_pos (by omega), hlen, e8]
  by_cases h16 : i < 16
  · have e1 : wrap64 (4 * (i : Int)) = ((4 * i : Nat) : Int) := by rw [w64 _ (by omega) (by omega)]; rfl
    have e2 : wrap64 (((4 * i : Nat) : Int) + 4) = ((4 * i + 4 : Nat) : Int) := by rw [w64 _ (by omega) (by omega)]; rfl
    rw [if_pos (by omega), e1, e2, if_pos (by omega), if_pos (by omega), if_pos (by rw [strOf_size]; omega), Int.toNat_natCast, Int.toNat_natCast, word_at b hb hl i h16 k hk]
    show (if i < 35184372088832 then _ else none) = _
    rw [if_pos (by omega)]
    unfold nxt
    rw [sch_len, if_pos h16]
    rfl
  · have f1 : wrap64 ((i : Int) - 15) = ((i - 15 : Nat) : Int) := by rw [w64 _ (by omega) (by omega)]; omega
    have f2 : wrap64 ((i : Int) - 2) = ((i - 2 : Nat) : Int) := by rw [w64 _ (by omega) (by omega)]; omega
    have f3 : wrap64 ((i : Int) - 16) = ((i - 16 : Nat) : Int) := by rw [w64 _ (by omega) (by omega)]; omega
    have f4 : wrap64 ((i : Int) - 7) = ((i - 7 : Nat) : Int) := by rw [w64 _ (by omega) (by omega)]; omega
    rw [if_neg (by omega), f1, f2, f3, f4, if_pos (by omega), if_pos (by omega), if_pos (by omega), if_pos (by omega), rd_B, rd_B, rd_B, rd_B]
    have r7 := fun x => right_B x 7 (by omega) (by omega)
    have r18 := fun x => right_B x 18 (by omega) (by omega)
    have r17 := fun x => right_B x 17 (by omega) (by omega)
    have r19 := fun x => right_B x 19 (by omega) (by omega)
    have r7 : ∀ x, transeptref03_right.f (B x) 7 = _ := r7
    have r18 : ∀ x, transeptref03_right.f (B x) 18 = _ := r18
    have r17 : ∀ x, transeptref03_right.f (B x) 17 = _ := r17
    have r19 : ∀ x, transeptref03_right.f (B x) 19 = _ := r19
    rw [r7, r18, r17, r19]
    simp only [Option.bind_some]
    rw [if_pos (by omega), if_pos (by omega), if_pos (by omega), if_pos (by omega), if_pos (by omega)]
    unfold nxt
    rw [sch_len, if_neg h16]
    have s3 := fun x : BitVec 32 => shrB x 3
    have s10 := fun x : BitVec 32 => shrB x 10
    simp only [show (2 : Int) ^ 3 = 8 from rfl, show (2 : Int) ^ 10 = 1024 from rfl] at s3 s10
    rw [xorB, xorB, s3, s10, xorB, xorB, addB2, addB2, addB2]
    rfl
theorem l0_run (b : List Int) (hb : Bytes b) (hl : b.length = 64) (d rt : List Int) (hd : d.length ≤ 100) (k : Nat) (hk : 5 ≤ k) :
    ∀ n i, i + n = 64 → transeptref03_block.l0 (k + 1 + n) d (strOfNums b) rt ((sch b i).map B) (i : Int) = transeptref03_block.l1 k d rt ((sch b 64).map B) d 0
  | 0, i, h => by
    obtain rfl : i = 64 := by omega
    show transeptref03_block.l0 (k + 1) _ _ _ _ _ = _
    rw [transeptref03_block.l0, if_neg (by omega)]
    show (if ([] : List Int).length + d.length < 35184372088832 then _ else none) = _
    rw [if_pos (by simp only [List.length_nil]; omega)]
    rfl
  | n + 1, i, h => by
    show transeptref03_block.l0 (k + 1 + n + 1) _ _ _ _ _ = _
    rw [l0_step b hb hl d rt (k + 1 + n) i (by omega) (by omega)]
    exact l0_run b hb hl d rt hd k hk n (i + 1) (by omega)
theorem ns_rd (x : D8) : rd x.ns 0 = B x.a ∧ rd x.ns 1 = B x.b ∧ rd x.ns 2 = B x.c ∧ rd x.ns 3 = B x.d ∧ rd x.ns 4 = B x.e ∧ rd x.ns 5 = B x.f ∧ rd x.ns 6 = B x.g ∧ rd x.ns 7 = B x.h := ⟨rfl, rfl, rfl, rfl, rfl, rfl, rfl, rfl⟩
theorem ns_len (x : D8) : x.ns.length = 8 := rfl
theorem l1_step (d rt : List Int) (ws : List (BitVec 32)) (y : D8) (k i : Nat) (hi : i < 64) (hrt : rt.length = 64) (hws : ws.length = 64) (hK : rd rt (i : Int) = B (K i)) :
    transeptref03_block.l1 (k + 1) d rt (ws.map B) y.ns (i : Int) = transeptref03_block.l1 k d rt (ws.map B) (rnd y (K i) (ws.getD i 0)).ns ((i + 1 : Nat) : Int) := by
  have e8 : wrap64 ((i : Int) + 1) = ((i + 1 : Nat) : Int) := by rw [w64 _ (by omega) (by omega)]; rfl
  have hwl : (ws.map B).length = 64 := by rw [List.length_map, hws]
  obtain ⟨q0, q1, q2, q3, q4, q5, q6, q7⟩ := ns_rd y
  have r6 : ∀ x, transeptref03_right.f (B x) 6 = _ := fun x => right_B x 6 (by omega) (by omega)
  have r11 : ∀ x, transeptref03_right.f (B x) 11 = _ := fun x => right_B x 11 (by omega) (by omega)
  have r25 : ∀ x, transeptref03_right.f (B x) 25 = _ := fun x => right_B x 25 (by omega) (by omega)
  have r2 : ∀ x, transeptref03_right.f (B x) 2 = _ := fun x => right_B x 2 (by omega) (by omega)
  have r13 : ∀ x, transeptref03_right.f (B x) 13 = _ := fun x => right_B x 13 (by omega) (by omega)
  have r22 : ∀ x, transeptref03_right.f (B x) 22 = _ := fun x => right_B x 22 (by omega) (by omega)
  rw [transeptref03_block.l1, if_pos (by omega), ns_len]
  rw [if_pos (by decide), if_pos (by decide), if_pos (by decide), if_pos (by decide), if_pos (by decide), if_pos (by decide), if_pos (by decide)]
  rw [q0, q1, q2, q3, q4, q5, q6, q7, r6, r11, r25, r2, r13, r22]
  simp only [Option.bind_some]
  rw [if_pos (by omega), if_pos (by omega), if_pos (by omega), if_pos (by decide), hK, rd_B, e8]
  rw [xorB, xorB, xorB, xorB, andB, notB', andB, xorB, andB, andB, andB, xorB, xorB, addB2, addB2, addB2, addB2, addB2, addB2, addB2]
  rfl
theorem l1_run (d rt : List Int) (ws : List (BitVec 32)) (y : D8) (k : Nat) (hrt : rt.length = 64) (hws : ws.length = 64) (hK : ∀ i : Nat, i < 64 → rd rt (i : Int) = B (K i)) :
    ∀ n i, i + n = 64 → transeptref03_block.l1 (k + 1 + n) d rt (ws.map B) (rnds y ws i).ns (i : Int) = transeptref03_block.l2 k d (rnds y ws 64).ns [] 0
  | 0, i, h => by
    obtain rfl : i = 64 := by omega
    show transeptref03_block.l1 (k + 1) _ _ _ _ _ = _
    rw [transeptref03_block.l1, if_neg (by omega)]
  | n + 1, i, h => by
    show transeptref03_block.l1 (k + 1 + n + 1) _ _ _ _ _ = _
    rw [l1_step d rt ws (rnds y ws i) (k + 1 + n) i (by omega) hrt hws (hK i (by omega)), ← rnds_succ]
    exact l1_run d rt ws y k hrt hws hK n (i + 1) (by omega)
theorem l2_run (x y : D8) (k : Nat) (hk : 9 ≤ k) : transeptref03_block.l2 k x.ns y.ns [] 0 = some (x.add y).ns := by
  obtain ⟨k, rfl⟩ : ∃ m, k = m + 9 := ⟨k - 9, by omega⟩
  have st : ∀ (n i : Nat) (o : List Int), i < 8 → o.length ≤ 8 → transeptref03_block.l2 (n + 1) x.ns y.ns o (i : Int) = transeptref03_block.l2 n x.ns y.ns (o ++ [(rd x.ns (i : Int) + rd y.ns (i : Int)) % 4294967296]) ((i + 1 : Nat) : Int) := by
    intro n i o hi ho
    have e8 : wrap64 ((i : Int) + 1) = ((i + 1 : Nat) : Int) := by rw [w64 _ (by omega) (by omega)]; rfl
    rw [transeptref03_block.l2, if_pos (by omega), if_pos (by omega), ns_len, ns_len, if_pos (by omega), if_pos (by omega), if_pos (by omega), e8]
  show transeptref03_block.l2 (k + 8 + 1) x.ns y.ns [] ((0 : Nat) : Int) = _
  rw [st (k + 8) 0 _ (by omega) (by decide), st (k + 7) 1 _ (by omega) (by simp), st (k + 6) 2 _ (by omega) (by simp), st (k + 5) 3 _ (by omega) (by simp), st (k + 4) 4 _ (by omega) (by simp), st (k + 3) 5 _ (by omega) (by simp), st (k + 2) 6 _ (by omega) (by simp), st (k + 1) 7 _ (by omega) (by simp)]
  rw [transeptref03_block.l2, if_neg (by decide)]
  obtain ⟨p0, p1, p2, p3, p4, p5, p6, p7⟩ := ns_rd x
  obtain ⟨q0, q1, q2, q3, q4, q5, q6, q7⟩ := ns_rd y
  show some [(rd x.ns 0 + rd y.ns 0) % 4294967296, (rd x.ns 1 + rd y.ns 1) % 4294967296, (rd x.ns 2 + rd y.ns 2) % 4294967296, (rd x.ns 3 + rd y.ns 3) % 4294967296, (rd x.ns 4 + rd y.ns 4) % 4294967296, (rd x.ns 5 + rd y.ns 5) % 4294967296, (rd x.ns 6 + rd y.ns 6) % 4294967296, (rd x.ns 7 + rd y.ns 7) % 4294967296] = _
  rw [p0, p1, p2, p3, p4, p5, p6, p7, q0, q1, q2, q3, q4, q5, q6, q7]
  simp only [addB2]
  rfl
/-- A block. -/
theorem block_ref (d : D8) (b : List Int) (hb : Bytes b) (hl : b.length = 64) (k : Nat) (hk : 200 ≤ k) : transeptref03_block.f k d.ns (strOfNums b) roots = some (F d b).ns := by
  have hK : ∀ i : Nat, i < 64 → rd roots (i : Int) = B (K i) := by
    have h : ∀ i : Fin 64, rd roots (i.val : Int) = B (K i.val) := by decide +kernel
    exact fun i hi => h ⟨i, hi⟩
  obtain ⟨k, rfl⟩ : ∃ m, k = m + 1 + 64 + 1 + 64 := ⟨k - 130, by omega⟩
  unfold transeptref03_block.f
  have h0 := l0_run b hb hl d.ns roots (by rw [ns_len]; decide) (k + 1 + 64) (by omega) 64 0 rfl
  have h1 := l1_run d.ns roots (sch b 64) d k rfl (sch_len b 64) hK 64 0 rfl
  refine h0.trans (h1.trans ?_)
  exact l2_run d _ k (by omega)
end Go.Proofs.YtanafhccflmdkaaDoor.Ref
