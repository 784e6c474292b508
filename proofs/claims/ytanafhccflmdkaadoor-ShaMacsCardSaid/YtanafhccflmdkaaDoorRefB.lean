/- The reference's digest is ours: plain law. -/
import Derived.Test.YtanafhccflmdkaaDoorXax14
import Derived.Test.YtanafhccflmdkaaDoorRefA
import Derived.Test.YtanafhccflmdkaaDoorRefR
namespace Go.Proofs.YtanafhccflmdkaaDoor.Ref
open Go.RowKit Go.Proofs.YtanafhccflmdkaaDoorW.PrintWords Go.Proofs.YtanafhccflmdkaaDoorW.PrintLast Go.Proofs.YtanafhccflmdkaaDoorW.PrintMore
open Go.Proofs.YtanafhccflmdkaaDoor.Xa
open Go.Proofs.YtanafhccflmdkaaDoor.Ext (Bytes B D8 F roots d0 St St_append St_n St_r more_piece spl more padding padding_len padding_full eight byteAt DW outB outs digest)
set_option linter.unusedVariables false
set_option linter.unusedSimpArgs false
theorem l3_run (y : D8) (k : Nat) (hk : 9 ≤ k) : transeptref03_Sum.l3 k y.ns [] 0 = some (strOfNums (outs y)) := by
  obtain ⟨k, rfl⟩ : ∃ m, k = m + 9 := ⟨k - 9, by omega⟩
  have by_ : ∀ (w : BitVec 32) (s : Nat), (B w / 2 ^ s) % 256 = (((w >>> s).toNat % 256 : Nat) : Int) := by
    intro w s
    rw [Ext.shrB]; unfold B; omega
  have st : ∀ (n i : Nat) (o : List Int), i < 8 → o.length ≤ 32 → transeptref03_Sum.l3 (n + 1) y.ns o (i : Int) = transeptref03_Sum.l3 n y.ns (o ++ [outB y (4 * i), outB y (4 * i + 1), outB y (4 * i + 2), outB y (4 * i + 3)]) ((i + 1 : Nat) : Int) := by
    intro n i o hi ho
    have e8 : wrap64 ((i : Int) + 1) = ((i + 1 : Nat) : Int) := by rw [w64 _ (by omega) (by omega)]; rfl
    have hr : rd y.ns (i : Int) = B (y.ws.getD i 0) := by unfold D8.ns; exact rd_B _ _
    rw [transeptref03_Sum.l3, if_pos (by omega), if_pos (by omega), ns_len, if_pos (by omega), hr, e8]
    show (if o.length + 4 < 140737488355328 then _ else none) = _
    rw [if_pos (by omega)]
    have b24 := by_ (y.ws.getD i 0) 24
    have b16 := by_ (y.ws.getD i 0) 16
    have b8 := by_ (y.ws.getD i 0) 8
    have b0 := by_ (y.ws.getD i 0) 0
    have e0 : outB y (4 * i) = B (y.ws.getD i 0) / 16777216 % 256 := by unfold outB; rw [show 4 * i / 4 = i by omega, show 24 - 4 * i % 4 * 8 = 24 by omega, ← b24]; rfl
    have e1 : outB y (4 * i + 1) = B (y.ws.getD i 0) / 65536 % 256 := by unfold outB; rw [show (4 * i + 1) / 4 = i by omega, show 24 - (4 * i + 1) % 4 * 8 = 16 by omega, ← b16]; rfl
    have e2 : outB y (4 * i + 2) = B (y.ws.getD i 0) / 256 % 256 := by unfold outB; rw [show (4 * i + 2) / 4 = i by omega, show 24 - (4 * i + 2) % 4 * 8 = 8 by omega, ← b8]; rfl
    have e3 : outB y (4 * i + 3) = B (y.ws.getD i 0) % 256 := by unfold outB; rw [show (4 * i + 3) / 4 = i by omega, show 24 - (4 * i + 3) % 4 * 8 = 0 by omega, ← b0]; simp
    rw [e0, e1, e2, e3]
  show transeptref03_Sum.l3 (k + 8 + 1) y.ns [] ((0 : Nat) : Int) = _
  rw [st (k + 8) 0 _ (by omega) (by simp), st (k + 7) 1 _ (by omega) (by simp), st (k + 6) 2 _ (by omega) (by simp), st (k + 5) 3 _ (by omega) (by simp), st (k + 4) 4 _ (by omega) (by simp), st (k + 3) 5 _ (by omega) (by simp), st (k + 2) 6 _ (by omega) (by simp), st (k + 1) 7 _ (by omega) (by simp)]
  rw [transeptref03_Sum.l3, if_neg (by decide)]
  rfl
theorem St_block (l c : List Int) (hl : l.length % 64 = 0) (hc : c.length = 64) : (St (l ++ c)).d = F (St l).d c := by
  rw [St_append, more_piece c (St l) (St_r l) (by omega) (by rw [St_n]; omega), St_n, hl, if_pos (by omega)]
  have : spl (St l).r 0 c = c := by unfold spl; rw [List.take_zero, List.nil_append, Nat.zero_add, List.drop_eq_nil_of_le (by rw [St_r]; omega), List.append_nil]
  rw [this]
theorem sum_l2 (T : List Int) (hT : Bytes T) (q : Nat) (hq : T.length = 64 * q) (hn : T.length ≤ 1000000) (K : Nat) (hK : 200 ≤ K) :
    ∀ m j, j + m = q → transeptref03_Sum.l2 (K + 1 + m) (strOfNums T) (St (T.take (64 * j))).d.ns roots ((64 * j : Nat) : Int) = transeptref03_Sum.l3 K (St T).d.ns [] 0
  | 0, j, h => by
    show transeptref03_Sum.l2 (K + 1) _ _ _ _ = _
    rw [transeptref03_Sum.l2, strOf_size, if_neg (by omega), List.take_of_length_le (by omega)]
  | m + 1, j, h => by
    show transeptref03_Sum.l2 (K + 1 + m + 1) _ _ _ _ = _
    have e8 : wrap64 (((64 * j : Nat) : Int) + 64) = ((64 * (j + 1) : Nat) : Int) := by rw [w64 _ (by omega) (by omega)]; omega
    have hc : ((T.take (64 * (j + 1))).drop (64 * j)).length = 64 := by rw [List.length_drop, List.length_take]; omega
    have hcb : Bytes ((T.take (64 * (j + 1))).drop (64 * j)) := fun x hx => hT x (List.mem_of_mem_take (List.mem_of_mem_drop hx))
    have hs : T.take (64 * (j + 1)) = T.take (64 * j) ++ (T.take (64 * (j + 1))).drop (64 * j) := by
      have h_ := (List.take_append_drop (64 * j) (T.take (64 * (j + 1)))).symm
      rw [List.take_take, show min (64 * j) (64 * (j + 1)) = 64 * j by omega] at h_
      exact h_
    rw [transeptref03_Sum.l2, strOf_size, e8, if_pos (by omega), if_pos (by omega), if_pos (by omega), if_pos (by omega), Int.toNat_natCast, Int.toNat_natCast, strOf_cut,
      block_ref _ _ hcb hc _ (by omega), Option.bind_some, ← St_block (T.take (64 * j)) _ (by rw [List.length_take]; omega) hc, ← hs]
    exact sum_l2 T hT q hq hn K hK m (j + 1) (by omega)
theorem l1_run' (x : List Int) (n k : Nat) (hx : x.length ≤ 1000000) (hn : n ≤ 1000000) : transeptref03_Sum.l1 (k + 9) (strOfNums x) (((n * 8 : Nat)) : Int) 56 = (transeptref03_Roots.f k 8 false).bind fun t207 => (transeptref03_Roots.f k 64 true).bind fun t210 => transeptref03_Sum.l2 k (strOfNums (x ++ eight (n * 8))) t207 t210 0 := by
  have st : ∀ (m i : Nat) (o : List Int), i ≤ 56 → o.length ≤ 1000010 → transeptref03_Sum.l1 (m + 1) (strOfNums o) ((n * 8 : Nat) : Int) (i : Int) = transeptref03_Sum.l1 m (strOfNums (o ++ [byteAt (n * 8) i])) ((n * 8 : Nat) : Int) ((i : Int) - 8) := by
    intro m i o hi ho
    have e8 : wrap64 ((i : Int) - 8) = (i : Int) - 8 := w64 _ (by omega) (by omega)
    have ew : IntKind.u64.wrap (i : Int) = (i : Int) := by rw [IntKind.wrap_u64]; omega
    have hb : (shr .u64 ((n * 8 : Nat) : Int) (i : Int)) % 256 = byteAt (n * 8) i := by
      unfold shr byteAt
      rw [Int.toNat_natCast, show min i IntKind.u64.bits = i by rw [show IntKind.u64.bits = 64 from rfl]; omega]
      rw [Int.natCast_emod, Int.natCast_ediv]; simp
    rw [transeptref03_Sum.l1, if_pos (by omega), ew, if_pos (by omega), e8, hb]
    show (if (strOfNums o).size + (strOfNums [byteAt (n * 8) i]).size ≤ 9223372036854775807 then _ else none) = _
    rw [if_pos (by rw [strOf_size, strOf_size]; simp; omega), ← strOf_append]
  show transeptref03_Sum.l1 (k + 8 + 1) _ _ ((56 : Nat) : Int) = _
  rw [st (k + 8) 56 _ (by omega) (by omega)]
  show transeptref03_Sum.l1 (k + 7 + 1) _ _ ((48 : Nat) : Int) = _
  rw [st (k + 7) 48 _ (by omega) (by simp; omega)]
  show transeptref03_Sum.l1 (k + 6 + 1) _ _ ((40 : Nat) : Int) = _
  rw [st (k + 6) 40 _ (by omega) (by simp; omega)]
  show transeptref03_Sum.l1 (k + 5 + 1) _ _ ((32 : Nat) : Int) = _
  rw [st (k + 5) 32 _ (by omega) (by simp; omega)]
  show transeptref03_Sum.l1 (k + 4 + 1) _ _ ((24 : Nat) : Int) = _
  rw [st (k + 4) 24 _ (by omega) (by simp; omega)]
  show transeptref03_Sum.l1 (k + 3 + 1) _ _ ((16 : Nat) : Int) = _
  rw [st (k + 3) 16 _ (by omega) (by simp; omega)]
  show transeptref03_Sum.l1 (k + 2 + 1) _ _ ((8 : Nat) : Int) = _
  rw [st (k + 2) 8 _ (by omega) (by simp; omega)]
  show transeptref03_Sum.l1 (k + 1 + 1) _ _ ((0 : Nat) : Int) = _
  rw [st (k + 1) 0 _ (by omega) (by simp; omega)]
  rw [transeptref03_Sum.l1, if_neg (by decide)]
  simp only [List.append_assoc]
  rfl
theorem l0_pad (M : Int) (k : Nat) : ∀ (z : Nat) (x : List Int), (x.length + z) % 64 = 56 → z < 64 → x.length + z ≤ 1000000 → transeptref03_Sum.l0 (k + 1 + z) (strOfNums x) M = transeptref03_Sum.l1 k (strOfNums (x ++ List.replicate z 0)) M 56
  | 0, x, h, hz, hx => by
    show transeptref03_Sum.l0 (k + 1) _ _ = _
    rw [transeptref03_Sum.l0, strOf_size, if_pos (by omega), List.replicate_zero, List.append_nil]
  | z + 1, x, h, hz, hx => by
    show transeptref03_Sum.l0 (k + 1 + z + 1) _ _ = _
    rw [transeptref03_Sum.l0, strOf_size, if_neg (by omega), if_pos (by omega), show (⟨#[0]⟩ : ByteArray) = strOfNums [0] from rfl, ← strOf_append,
      l0_pad M k z (x ++ [0]) (by rw [List.length_append]; show (x.length + 1 + z) % 64 = 56; omega) (by omega) (by rw [List.length_append]; show x.length + 1 + z ≤ 1000000; omega)]
    rw [List.append_assoc]; rfl
theorem padding_bytes (n : Nat) : Bytes (padding n) := by
  intro x hx
  unfold padding at hx
  rcases List.mem_append.1 hx with h | h
  · rcases List.mem_cons.1 h with h | h
    · rw [h]; decide
    · rw [List.eq_of_mem_replicate h]; decide
  · unfold eight at h
    simp only [List.mem_cons, List.not_mem_nil, or_false] at h
    rcases h with rfl | rfl | rfl | rfl | rfl | rfl | rfl | rfl <;> (unfold byteAt; omega)
/-- The reference's digest. -/
theorem sum_ref (b : List Int) (hb : Bytes b) (hn : b.length ≤ 100000) (k : Nat) (hk : 30000 ≤ k) : transeptref03_Sum.f k (strOfNums b) = some (strOfNums (digest b)) := by
  obtain ⟨z, hz⟩ : ∃ z, z = (119 - b.length % 64) % 64 := ⟨_, rfl⟩
  obtain ⟨q, hq⟩ : ∃ q, b.length + (padding b.length).length = 64 * q := ⟨(b.length + (padding b.length).length) / 64, by have := padding_full b.length; omega⟩
  have hpl := padding_len b.length
  have hTl : (b ++ padding b.length).length = 64 * q := by rw [List.length_append, hq]
  have hTb : Bytes (b ++ padding b.length) := fun x hx => (List.mem_append.1 hx).elim (hb x) (padding_bytes _ x)
  obtain ⟨K, hK⟩ : ∃ K, k = (K + 1 + q + 9) + 1 + z := ⟨k - 11 - q - z, by omega⟩
  have hK2 : 23000 ≤ K + 1 + q := by omega
  unfold transeptref03_Sum.f
  have e1 : IntKind.u64.wrap (IntKind.u64.wrap (b.length : Int) * 8) = ((b.length * 8 : Nat) : Int) := by rw [IntKind.wrap_u64, IntKind.wrap_u64]; omega
  rw [strOf_size, if_pos (by omega), e1, show (⟨#[128]⟩ : ByteArray) = strOfNums [128] from rfl, ← strOf_append, hK,
    l0_pad _ _ z (b ++ [128]) (by rw [List.length_append]; show (b.length + 1 + z) % 64 = 56; omega) (by omega) (by rw [List.length_append]; show b.length + 1 + z ≤ 1000000; omega),
    l1_run' _ b.length (K + 1 + q) (by rw [List.length_append, List.length_append, List.length_replicate]; show b.length + 1 + z ≤ 1000000; omega) (by omega),
    roots8k _ (by omega), roots64 _ hK2]
  have hT : b ++ [128] ++ List.replicate z 0 ++ eight (b.length * 8) = b ++ padding b.length := by
    unfold padding
    rw [hz, List.append_assoc, List.append_assoc]; rfl
  rw [hT]
  have h2 := sum_l2 (b ++ padding b.length) hTb q hTl (by omega) K (by omega) q 0 (by omega)
  refine h2.trans ?_
  exact l3_run _ K (by omega)
end Go.Proofs.YtanafhccflmdkaaDoor.Ref
