/- The digest of layer 3, in plain words: blocks, states, digests, tags. -/
import Derived.Laws.BitsLemmas
import Derived.RowKit
namespace Go.Proofs.YtanafhccflmdkaaDoor.Ext
set_option linter.unusedVariables false
/-- A number of 32 bits as the walk has it. -/
def B (x : BitVec 32) : Int := x.toNat
theorem B_range (x : BitVec 32) : 0 ≤ B x ∧ B x < 4294967296 := by unfold B; have := x.isLt; omega
theorem B_inj {x y : BitVec 32} (h : B x = B y) : x = y := by unfold B at h; exact BitVec.eq_of_toNat_eq (by omega)
theorem ofInt_B (x : BitVec 32) : BitVec.ofInt 32 (B x) = x := by unfold B; simp
theorem B_ofInt (n : Int) (h0 : 0 ≤ n) (h1 : n < 4294967296) : B (BitVec.ofInt 32 n) = n := by
  unfold B; obtain ⟨m, rfl⟩ := Int.eq_ofNat_of_zero_le h0; simp; omega
theorem wrapB (n : Nat) (h : n < 4294967296) : IntKind.u32.wrap (n : Int) = n := by rw [IntKind.wrap_u32]; omega
theorem xorB (x y : BitVec 32) : bits .xor .u32 (B x) (B y) = B (x ^^^ y) := by
  simp only [bits]
  rw [show IntKind.u32.bits = 32 from rfl, ofInt_B, ofInt_B, wrapB _ (BitVec.isLt _)]; rfl
theorem andB (x y : BitVec 32) : bits .and .u32 (B x) (B y) = B (x &&& y) := by
  simp only [bits]
  rw [show IntKind.u32.bits = 32 from rfl, ofInt_B, ofInt_B, wrapB _ (BitVec.isLt _)]; rfl
theorem orB (x y : BitVec 32) : bits .or .u32 (B x) (B y) = B (x ||| y) := by
  simp only [bits]
  rw [show IntKind.u32.bits = 32 from rfl, ofInt_B, ofInt_B, wrapB _ (BitVec.isLt _)]; rfl
theorem notB (x : BitVec 32) : bits .xor .u32 IntKind.u32.max (B x) = B (~~~ x) := by
  have h : IntKind.u32.max = B (BitVec.allOnes 32) := by decide
  rw [h, xorB, BitVec.allOnes_xor]
theorem addB (x y : BitVec 32) : IntKind.u32.wrap (B x + B y) = B (x + y) := by
  rw [IntKind.wrap_u32]; unfold B; rw [BitVec.toNat_add]; omega
theorem shlB (x : BitVec 32) (n : Nat) : IntKind.u32.wrap (B x * 2 ^ n) = B (x <<< n) := by
  rw [IntKind.wrap_u32]; unfold B
  rw [BitVec.toNat_shiftLeft, Nat.shiftLeft_eq]
  rw [Int.natCast_emod]; simp
theorem shrB (x : BitVec 32) (n : Nat) : B x / (2 ^ n) = B (x >>> n) := by
  unfold B; rw [BitVec.toNat_ushiftRight, Nat.shiftRight_eq_div_pow]; simp
theorem byteB (n : Int) (h0 : 0 ≤ n) (h1 : n < 256) : IntKind.u32.wrap n = B (BitVec.ofInt 32 n) := by
  rw [B_ofInt n h0 (by omega), IntKind.wrap_u32]; omega

/-- Turned right. -/
def rot (x : BitVec 32) (n : Nat) : BitVec 32 := (x <<< (32 - n)) ||| (x >>> n)
def ss (x : BitVec 32) : BitVec 32 := rot x 7 ^^^ rot x 18 ^^^ (x >>> 3)
def gs (x : BitVec 32) : BitVec 32 := rot x 17 ^^^ rot x 19 ^^^ (x >>> 10)
def be (x : BitVec 32) : BitVec 32 := rot x 6 ^^^ rot x 11 ^^^ rot x 25
def ba (x : BitVec 32) : BitVec 32 := rot x 2 ^^^ rot x 13 ^^^ rot x 22
/-- Four bytes of a block, the highest first. -/
def push (x : BitVec 32) (c : Int) : BitVec 32 := (x <<< 8) ||| BitVec.ofInt 32 c
def word4 (b : List Int) (i : Nat) : BitVec 32 := ((b.drop (4 * i)).take 4).foldl push 0#32
/-- The words of a block, one more. -/
def nxt (b : List Int) (l : List (BitVec 32)) : BitVec 32 :=
  if l.length < 16 then word4 b l.length
  else l.getD (l.length - 16) 0 + ss (l.getD (l.length - 15) 0) + l.getD (l.length - 7) 0 + gs (l.getD (l.length - 2) 0)
def sch (b : List Int) : Nat → List (BitVec 32)
  | 0 => []
  | i + 1 => (fun l => l ++ [nxt b l]) (sch b i)
theorem sch_len (b : List Int) : ∀ i, (sch b i).length = i
  | 0 => rfl
  | i + 1 => by show (sch b i ++ [nxt b (sch b i)]).length = i + 1; rw [List.length_append, sch_len b i]; rfl
theorem sch_succ (b : List Int) (i : Nat) : sch b (i + 1) = sch b i ++ [nxt b (sch b i)] := rfl
/-- The cube roots' fractions. -/
def roots : List Int := [1116352408, 1899447441, 3049323471, 3921009573, 961987163, 1508970993, 2453635748, 2870763221, 3624381080, 310598401, 607225278, 1426881987, 1925078388, 2162078206, 2614888103, 3248222580, 3835390401, 4022224774, 264347078, 604807628, 770255983, 1249150122, 1555081692, 1996064986, 2554220882, 2821834349, 2952996808, 3210313671, 3336571891, 3584528711, 113926993, 338241895, 666307205, 773529912, 1294757372, 1396182291, 1695183700, 1986661051, 2177026350, 2456956037, 2730485921, 2820302411, 3259730800, 3345764771, 3516065817, 3600352804, 4094571909, 275423344, 430227734, 506948616, 659060556, 883997877, 958139571, 1322822218, 1537002063, 1747873779, 1955562222, 2024104815, 2227730452, 2361852424, 2428436474, 2756734187, 3204031479, 3329325298]
def K (i : Nat) : BitVec 32 := BitVec.ofInt 32 (roots.getD i 0)
/-- The eight words. -/
structure D8 where
  a : BitVec 32
  b : BitVec 32
  c : BitVec 32
  d : BitVec 32
  e : BitVec 32
  f : BitVec 32
  g : BitVec 32
  h : BitVec 32
deriving DecidableEq
def D8.ws (x : D8) : List (BitVec 32) := [x.a, x.b, x.c, x.d, x.e, x.f, x.g, x.h]
def D8.ns (x : D8) : List Int := x.ws.map B
def tt (x : D8) (k w : BitVec 32) : BitVec 32 := x.h + be x.e + ((x.e &&& x.f) ^^^ (~~~ x.e &&& x.g)) + k + w
def uu (x : D8) : BitVec 32 := ba x.a + ((x.a &&& x.b) ^^^ (x.a &&& x.c) ^^^ (x.b &&& x.c))
def rnd (x : D8) (k w : BitVec 32) : D8 := ⟨tt x k w + uu x, x.a, x.b, x.c, x.d + tt x k w, x.e, x.f, x.g⟩
def rnds (x : D8) (ws : List (BitVec 32)) : Nat → D8
  | 0 => x
  | i + 1 => (fun y => rnd y (K i) (ws.getD i 0)) (rnds x ws i)
theorem rnds_succ (x : D8) (ws : List (BitVec 32)) (i : Nat) : rnds x ws (i + 1) = rnd (rnds x ws i) (K i) (ws.getD i 0) := rfl
def D8.add (x y : D8) : D8 := ⟨x.a + y.a, x.b + y.b, x.c + y.c, x.d + y.d, x.e + y.e, x.f + y.f, x.g + y.g, x.h + y.h⟩
/-- The eight words made anew by a block. -/
def F (d : D8) (b : List Int) : D8 := d.add (rnds d (sch b 64) 64)
def d0 : D8 := ⟨1779033703#32, 3144134277#32, 1013904242#32, 2773480762#32, 1359893119#32, 2600822924#32, 528734635#32, 1541459225#32⟩
/-- A state. -/
structure Sta where
  d : D8
  r : List Int
  n : Nat
def step (s : Sta) (c : Int) : Sta := if s.n % 64 = 63 then ⟨F s.d (s.r.set (s.n % 64) c), s.r.set (s.n % 64) c, s.n + 1⟩ else ⟨s.d, s.r.set (s.n % 64) c, s.n + 1⟩
def st0 : Sta := ⟨d0, List.replicate 64 0, 0⟩
def more (s : Sta) (l : List Int) : Sta := l.foldl step s
def St (l : List Int) : Sta := more st0 l
theorem more_append (s : Sta) (l m : List Int) : more s (l ++ m) = more (more s l) m := by simp [more]
theorem St_append (l m : List Int) : St (l ++ m) = more (St l) m := more_append _ _ _
theorem step_n (s : Sta) (c : Int) : (step s c).n = s.n + 1 := by unfold step; split <;> rfl
theorem step_r (s : Sta) (c : Int) : (step s c).r = s.r.set (s.n % 64) c := by unfold step; split <;> rfl
theorem more_n (l : List Int) : ∀ s : Sta, (more s l).n = s.n + l.length := by
  induction l with
  | nil => intro s; rfl
  | cons c l ih => intro s; show (more (step s c) l).n = _; rw [ih, step_n, List.length_cons]; omega
theorem more_r (l : List Int) : ∀ s : Sta, (more s l).r.length = s.r.length := by
  induction l with
  | nil => intro s; rfl
  | cons c l ih => intro s; show (more (step s c) l).r.length = _; rw [ih, step_r, List.length_set]
theorem St_n (l : List Int) : (St l).n = l.length := by unfold St; rw [more_n]; show 0 + _ = _; omega
theorem St_r (l : List Int) : (St l).r.length = 64 := by unfold St; rw [more_r]; show (List.replicate 64 (0 : Int)).length = 64; rw [List.length_replicate]
/-- Bytes laid over others. -/
def spl (r : List Int) (at_ : Nat) (p : List Int) : List Int := r.take at_ ++ p ++ r.drop (at_ + p.length)
theorem spl_len (r : List Int) (at_ : Nat) (p : List Int) (h : at_ + p.length ≤ r.length) : (spl r at_ p).length = r.length := by
  unfold spl; rw [List.length_append, List.length_append, List.length_take, List.length_drop]; omega
theorem set_split (r : List Int) (at_ : Nat) (c : Int) (h : at_ < r.length) : r.set at_ c = spl r at_ [c] := by
  unfold spl
  rw [List.set_eq_take_append_cons_drop, if_pos h]; simp
theorem spl_cons (r : List Int) (at_ : Nat) (c : Int) (q : List Int) (h : at_ + 1 + q.length ≤ r.length) : spl (r.set at_ c) (at_ + 1) q = spl r at_ (c :: q) := by
  unfold spl
  rw [List.take_set, List.drop_set_of_lt (by omega), List.length_cons, show at_ + (q.length + 1) = at_ + 1 + q.length by omega]
  congr 1
  rw [List.take_succ_eq_append_getElem (by omega), List.set_append_right _ _ (by rw [List.length_take]; omega), List.length_take, show at_ - min at_ r.length = 0 by omega]
  simp
theorem more_piece (p : List Int) : ∀ (s : Sta), s.r.length = 64 → 0 < p.length → s.n % 64 + p.length ≤ 64 →
    more s p = if s.n % 64 + p.length = 64 then ⟨F s.d (spl s.r (s.n % 64) p), spl s.r (s.n % 64) p, s.n + p.length⟩ else ⟨s.d, spl s.r (s.n % 64) p, s.n + p.length⟩ := by
  induction p with
  | nil => intro s _ h; simp at h
  | cons c q ih =>
    intro s hr _ hp
    show more (step s c) q = _
    cases q with
    | nil =>
      show step s c = _
      unfold step
      rw [set_split _ _ _ (by omega)]
      by_cases h : s.n % 64 = 63
      · rw [if_pos h, if_pos (by simp; omega)]; rfl
      · rw [if_neg h, if_neg (by simp; omega)]; rfl
    | cons c2 q =>
      simp only [List.length_cons] at hp
      have h63 : ¬ s.n % 64 = 63 := by omega
      have e : step s c = ⟨s.d, s.r.set (s.n % 64) c, s.n + 1⟩ := by unfold step; rw [if_neg h63]
      have e2 : (s.n + 1) % 64 = s.n % 64 + 1 := by omega
      rw [e, ih _ (by show (s.r.set _ _).length = 64; rw [List.length_set]; exact hr) (by simp) (by show (s.n + 1) % 64 + _ ≤ 64; rw [e2, List.length_cons]; omega)]
      show (if (s.n + 1) % 64 + _ = 64 then Sta.mk (F s.d (spl (s.r.set _ _) ((s.n + 1) % 64) _)) (spl (s.r.set _ _) ((s.n + 1) % 64) _) (s.n + 1 + _) else _) = _
      rw [e2, spl_cons _ _ _ _ (by rw [List.length_cons]; omega)]
      simp only [List.length_cons]
      rw [show s.n % 64 + 1 + (q.length + 1) = s.n % 64 + (q.length + 1 + 1) by omega, show s.n + 1 + (q.length + 1) = s.n + (q.length + 1 + 1) by omega]
/-- What stands behind the bytes. -/
def byteAt (n i : Nat) : Int := ((n / 2 ^ i % 256 : Nat) : Int)
def eight (n : Nat) : List Int := [byteAt n 56, byteAt n 48, byteAt n 40, byteAt n 32, byteAt n 24, byteAt n 16, byteAt n 8, byteAt n 0]
def padding (n : Nat) : List Int := (128 :: List.replicate ((119 - n % 64) % 64) 0) ++ eight (n * 8)
theorem padding_len (n : Nat) : (padding n).length = 1 + (119 - n % 64) % 64 + 8 := by unfold padding eight; simp; omega
theorem padding_full (n : Nat) : (n + (padding n).length) % 64 = 0 := by rw [padding_len]; omega
/-- The digest's words; its bytes. -/
def DW (l : List Int) : D8 := (St (l ++ padding l.length)).d
def outB (x : D8) (i : Nat) : Int := ((((x.ws.getD (i / 4) 0) >>> (24 - i % 4 * 8)).toNat % 256 : Nat) : Int)
def outs (x : D8) : List Int := (List.range 32).map (outB x)
def digest (l : List Int) : List Int := outs (DW l)
def xorI (a c : Int) : Int := bits .xor .u8 a c
def padK (k : List Int) (c : Int) : List Int := (List.range 64).map fun i => xorI (k.getD i 0) c
def keyOf64 (k : List Int) : List Int := if 64 < k.length then digest k else k
def mac (k l : List Int) : List Int := digest (padK (keyOf64 k) 92 ++ digest (padK (keyOf64 k) 54 ++ l))
theorem outs_len (x : D8) : (outs x).length = 32 := by unfold outs; rw [List.length_map, List.length_range]
theorem digest_len (l : List Int) : (digest l).length = 32 := outs_len _
theorem padK_zeros (k : List Int) (c : Int) (n : Nat) : padK (k ++ List.replicate n 0) c = padK k c := by
  unfold padK
  apply List.map_congr_left
  intro i _
  congr 1
  rw [List.getD_eq_getElem?_getD, List.getD_eq_getElem?_getD]
  by_cases h : i < k.length
  · rw [List.getElem?_append_left h]
  · rw [List.getElem?_append_right (by omega), List.getElem?_eq_none (l := k) (by omega), List.getElem?_replicate]
    split <;> rfl
theorem mac_zeros (k l : List Int) (n : Nat) (h : k.length + n ≤ 64) : mac (k ++ List.replicate n 0) l = mac k l := by
  unfold mac keyOf64
  rw [if_neg (by rw [List.length_append, List.length_replicate]; omega), if_neg (by omega), padK_zeros, padK_zeros]
theorem mac_long (k l : List Int) (h : 64 < k.length) : mac k l = mac (digest k) l := by
  unfold mac keyOf64
  rw [if_pos h, digest_len, if_neg (by decide)]
end Go.Proofs.YtanafhccflmdkaaDoor.Ext
