/- The sets, as function values: what each tells of a byte. -/
import Derived.Test.YtpofepfkalighaaLib
import Derived.Test.YtpofepfkalighaaWWords
import Derived.Test.YtpofepfkalighaaWMore
import Derived.Laws.EntriesVeiled
import Derived.Handy
namespace Go.Proofs.Ytpofepfkalighaa.Ext
open Go.RowKit Go.Proofs.YtpofepfkalighaaW.PrintWords Go.Proofs.YtpofepfkalighaaW.PrintMore
set_option linter.unusedVariables false

def inC0 (c : Int) : Bool := decide (c < 32) || decide (126 < c)
def hasB (m : ByteArray) (c : Int) : Bool := decide (0 ≤ Lib.indexByte m.data.toList c.toNat.toUInt8)
theorem lam25 (c : Int) (w : World) : Calls Try.prog 25 #[.int .u8 c] w fun e w' => e = .returned (.bool (inC0 c)) ∧ Drawn0 w w' := by
  go_enter Try.func25, Try.ntmps25
  by_cases h : c < 32
  · have h1 : decide (c < 32) = true := by simp [h]
    go_wp2_with (fail)
    go_ret
    exact ⟨by simp [inC0, h], Drawn0.refl _⟩
  · have h1 : decide (c < 32) = false := by simp [h]
    go_wp2_with (fail)
    go_ret
    exact ⟨by unfold inC0; rw [h1]; rfl, Drawn0.refl _⟩
theorem lam27 (c : Int) (w : World) : Calls Try.prog 27 #[.int .u8 c] w fun e w' => e = .returned (.bool false) ∧ Drawn0 w w' := by
  go_enter Try.func27, Try.ntmps27
  go_wp2_with (fail)
  go_ret
  exact ⟨rfl, Drawn0.refl _⟩
theorem lam30a (c : Int) (m : ByteArray) (ps pm : Addr) (w : World) (h0 : w.cell? ps = some (.func (.func 25) #[] #[])) (h1 : w.cell? pm = some (.string m)) :
    Calls Try.prog 30 #[.int .u8 c, .pointer (some ps), .pointer (some pm)] w fun e w' => e = .returned (.bool (inC0 c || hasB m c)) ∧ Drawn0 w w' := by
  go_enter Try.func30, Try.ntmps30
  go_wp2_with (fail)
  refine (lam25 c w).mono ?_
  rintro e w1 ⟨rfl, ⟨n1, rfl⟩⟩
  cases hc : inC0 c with
  | true =>
    go_wp2_with (fail)
    go_ret
    exact ⟨by rw [hc]; rfl, ⟨n1, rfl⟩⟩
  | false =>
    go_wp2_with (fail)
    refine (Try.strings_IndexByte _ _ _).mono ?_
    rintro e w2 ⟨rfl, rfl⟩
    go_wp2_with (fail)
    go_ret
    exact ⟨by rw [hc]; simp [hasB], ⟨n1, rfl⟩⟩
theorem lam30b (c : Int) (m : ByteArray) (ps pm : Addr) (m' : ByteArray) (ps' pm' : Addr) (w : World) (h0 : w.cell? ps = some (.func (.func 30) #[] #[.pointer (some ps'), .pointer (some pm')])) (h1 : w.cell? pm = some (.string m)) (h2 : w.cell? ps' = some (.func (.func 25) #[] #[])) (h3 : w.cell? pm' = some (.string m')) :
    Calls Try.prog 30 #[.int .u8 c, .pointer (some ps), .pointer (some pm)] w fun e w' => e = .returned (.bool ((inC0 c || hasB m' c) || hasB m c)) ∧ Drawn0 w w' := by
  go_enter Try.func30, Try.ntmps30
  go_wp2_with (fail)
  refine (lam30a c m' ps' pm' w h2 h3).mono ?_
  rintro e w1 ⟨rfl, ⟨n1, rfl⟩⟩
  cases hc : (inC0 c || hasB m' c) with
  | true =>
    go_wp2_with (fail)
    go_ret
    exact ⟨by rw [hc]; rfl, ⟨n1, rfl⟩⟩
  | false =>
    go_wp2_with (fail)
    refine (Try.strings_IndexByte _ _ _).mono ?_
    rintro e w2 ⟨rfl, rfl⟩
    go_wp2_with (fail)
    go_ret
    exact ⟨by rw [hc]; simp [hasB], ⟨n1, rfl⟩⟩
/-- The function value that 'with' makes, over two boxes. -/
def fW (g h : Nat) : Value := .func (.func 30) #[] #[.pointer (some ⟨g, 0, none⟩), .pointer (some ⟨h, 0, none⟩)]
def f25 : Value := .func (.func 25) #[] #[]
theorem with_a (m : ByteArray) (w : World) :
    Calls Try.prog 26 #[.agg #[.func (.func 25) #[] #[]], .string m] w fun e w' => ∃ g h : Nat, e = .returned (.agg #[fW g h]) ∧ w'.heap[g]? = some (.cells #[.func (.func 25) #[] #[]] 34 (0, 0)) ∧ w'.heap[h]? = some (.cells #[.string m] 9 (0, 0)) ∧ w.heap.size ≤ g ∧ w.heap.size ≤ h ∧ Below w.heap.size w w' := by
  unfold fW
  go_enter Try.func26, Try.ntmps26
  go_wp2_with (fail)
  go_returns
  refine ⟨_, _, rfl, blk_alloc (blk_alloc (blk_new _ _) _) _, blk_alloc (by have h := blk_new (w.alloc (.cells #[.func (.func 25) #[] #[]] 34)) (.cells #[.string m] 9); simpa using h) _, by omega, by omega, below_alloc (below_alloc (below_alloc (Below.refl _ _) _) _) _⟩
theorem with_b (g0 h0 : Nat) (m : ByteArray) (w : World) :
    Calls Try.prog 26 #[.agg #[.func (.func 30) #[] #[.pointer (some ⟨g0, 0, none⟩), .pointer (some ⟨h0, 0, none⟩)]], .string m] w fun e w' => ∃ g h : Nat, e = .returned (.agg #[fW g h]) ∧ w'.heap[g]? = some (.cells #[.func (.func 30) #[] #[.pointer (some ⟨g0, 0, none⟩), .pointer (some ⟨h0, 0, none⟩)]] 34 (0, 0)) ∧ w'.heap[h]? = some (.cells #[.string m] 9 (0, 0)) ∧ w.heap.size ≤ g ∧ w.heap.size ≤ h ∧ Below w.heap.size w w' := by
  unfold fW
  go_enter Try.func26, Try.ntmps26
  go_wp2_with (fail)
  go_returns
  refine ⟨_, _, rfl, blk_alloc (blk_alloc (blk_new _ _) _) _, blk_alloc (by have h := blk_new (w.alloc (.cells #[.func (.func 30) #[] #[.pointer (some ⟨g0, 0, none⟩), .pointer (some ⟨h0, 0, none⟩)]] 34)) (.cells #[.string m] 9); simpa using h) _, by omega, by omega, below_alloc (below_alloc (below_alloc (Below.refl _ _) _) _) _⟩
def f27 : Value := .func (.func 27) #[] #[]
def sQ : ByteArray := ⟨#[32, 34, 35, 60, 62]⟩
def sF : ByteArray := ⟨#[32, 34, 60, 62, 96]⟩
def sS : ByteArray := ⟨#[39]⟩
def sP : ByteArray := ⟨#[63, 94, 96, 123, 125]⟩
/-- Is a byte in the set of a number? -/
def inSet (n c : Int) : Bool :=
  if n = 1 then inC0 c else if n = 2 then inC0 c || hasB sF c else if n = 3 then inC0 c || hasB sQ c
  else if n = 4 then (inC0 c || hasB sQ c) || hasB sS c else if n = 5 then (inC0 c || hasB sQ c) || hasB sP c else false
/-- A function value that tells it. -/
def IsSet (W : World) (n : Int) (v : Value) : Prop :=
  (v = f25 ∧ ∀ c, inSet n c = inC0 c) ∨
  (∃ g h m, v = fW g h ∧ W.heap[g]? = some (.cells #[f25] 34 (0, 0)) ∧ W.heap[h]? = some (.cells #[.string m] 9 (0, 0)) ∧ ∀ c, inSet n c = (inC0 c || hasB m c)) ∨
  (∃ g h m g0 h0 m0, v = fW g h ∧ W.heap[g]? = some (.cells #[fW g0 h0] 34 (0, 0)) ∧ W.heap[h]? = some (.cells #[.string m] 9 (0, 0)) ∧
    W.heap[g0]? = some (.cells #[f25] 34 (0, 0)) ∧ W.heap[h0]? = some (.cells #[.string m0] 9 (0, 0)) ∧ ∀ c, inSet n c = ((inC0 c || hasB m0 c) || hasB m c)) ∨
  (v = f27 ∧ ∀ c, inSet n c = false)
theorem IsSet.below {w W : World} {n : Int} {v : Value} (h : IsSet w n v) (hb : Below w.heap.size w W) : IsSet W n v := by
  rcases h with h | ⟨g, k, m, h1, h2, h3, h4⟩ | ⟨g, k, m, g0, k0, m0, h1, h2, h3, h4, h5, h6⟩ | h
  · exact .inl h
  · exact .inr (.inl ⟨g, k, m, h1, blk_below h2 hb, blk_below h3 hb, h4⟩)
  · exact .inr (.inr (.inl ⟨g, k, m, g0, k0, m0, h1, blk_below h2 hb, blk_below h3 hb, blk_below h4 hb, blk_below h5 hb, h6⟩))
  · exact .inr (.inr (.inr h))
set_option maxHeartbeats 2000000 in
set_option maxRecDepth 100000 in
theorem sets1 (n : Int) (hn : n = 1) (w : World) :
    Calls Try.prog 17 #[.int .i64 n] w fun e w' => ∃ v, e = .returned (.agg #[v]) ∧ IsSet w' n v ∧ Below w.heap.size w w' := by
  subst hn
  go_enter Try.func17, Try.ntmps17
  go_wp2_with (fail)
  refine (with_a _ _).mono ?_
  rintro e w1 ⟨g, h, rfl, hg, hh, gl, hl, hb⟩
  have r0 : w1.heap[w.heap.size]? = some (.cells #[.nilFunc] 34 (0, 0)) := blk_below (blk_alloc (blk_new _ _) _) hb
  have r1 : w1.heap[w.heap.size + 1]? = some (.cells #[.func (.func 25) #[] #[]] 34 (0, 0)) := blk_below (by have h := blk_new (w.alloc (.cells #[.nilFunc] 34)) (.cells #[.func (.func 25) #[] #[]] 34); simpa using h) hb
  have HB := below_then (below_alloc (below_alloc (Below.refl w.heap.size w) _) _) (by simp; omega) hb
  simp only [World.size_alloc] at gl hl
  have s0 := blk_alloc r0 (.cells #[.func (.func 30) #[] #[.pointer (some ⟨g, 0, none⟩), .pointer (some ⟨h, 0, none⟩)]] 34)
  have s1 := blk_alloc r1 (.cells #[.func (.func 30) #[] #[.pointer (some ⟨g, 0, none⟩), .pointer (some ⟨h, 0, none⟩)]] 34)
  have s2 := blk_new w1 (.cells #[.func (.func 30) #[] #[.pointer (some ⟨g, 0, none⟩), .pointer (some ⟨h, 0, none⟩)]] 34)
  have hg2 := Aside0.mk (blk_alloc hg (.cells #[.func (.func 30) #[] #[.pointer (some ⟨g, 0, none⟩), .pointer (some ⟨h, 0, none⟩)]] 34))
  have hh2 := Aside0.mk (blk_alloc hh (.cells #[.func (.func 30) #[] #[.pointer (some ⟨g, 0, none⟩), .pointer (some ⟨h, 0, none⟩)]] 34))
  have HB2 := Aside0.mk (below_alloc HB (.cells #[.func (.func 30) #[] #[.pointer (some ⟨g, 0, none⟩), .pointer (some ⟨h, 0, none⟩)]] 34))
  have hl1 := blk_lt r1
  have c0 := blk_cell s0 0
  have c1 := blk_cell s1 0
  have c2 := blk_cell s2 0
  have f0 := blk_frozen s0 0
  have S0 := Aside0.mk s0
  clear hg hh r0 r1 hb HB s0 s1 s2
  simp only [List.getElem?_toArray, List.getElem?_cons_zero] at c0 c1 c2
  simp only [fW]
  have u0 := blk_cell (blk_set S0.out 0 (.func (.func 25) #[] #[])) 0
  simp only [List.setIfInBounds_toArray, List.set_cons_zero, List.getElem?_toArray, List.getElem?_cons_zero] at u0
  go_wp2_with (fail)
  (try simp only [Exit.inBlock, Exit.then])
  refine bodyPost_ret (v := .agg #[.func (.func 25) #[] #[]]) (by simp [results, Try.results17, go_sem, u0]) rfl ?_
  refine ⟨_, rfl, ?_, Below.setCell (p := ⟨w.heap.size, 0, none⟩) HB2.out (Nat.le_refl _) _⟩
  exact .inl ⟨rfl, fun c => rfl⟩
set_option maxHeartbeats 2000000 in
set_option maxRecDepth 100000 in
theorem sets3 (n : Int) (hn : n = 3) (w : World) :
    Calls Try.prog 17 #[.int .i64 n] w fun e w' => ∃ v, e = .returned (.agg #[v]) ∧ IsSet w' n v ∧ Below w.heap.size w w' := by
  subst hn
  go_enter Try.func17, Try.ntmps17
  go_wp2_with (fail)
  refine (with_a _ _).mono ?_
  rintro e w1 ⟨g, h, rfl, hg, hh, gl, hl, hb⟩
  have r0 : w1.heap[w.heap.size]? = some (.cells #[.nilFunc] 34 (0, 0)) := blk_below (blk_alloc (blk_new _ _) _) hb
  have r1 : w1.heap[w.heap.size + 1]? = some (.cells #[.func (.func 25) #[] #[]] 34 (0, 0)) := blk_below (by have h := blk_new (w.alloc (.cells #[.nilFunc] 34)) (.cells #[.func (.func 25) #[] #[]] 34); simpa using h) hb
  have HB := below_then (below_alloc (below_alloc (Below.refl w.heap.size w) _) _) (by simp; omega) hb
  simp only [World.size_alloc] at gl hl
  have s0 := blk_alloc r0 (.cells #[.func (.func 30) #[] #[.pointer (some ⟨g, 0, none⟩), .pointer (some ⟨h, 0, none⟩)]] 34)
  have s1 := blk_alloc r1 (.cells #[.func (.func 30) #[] #[.pointer (some ⟨g, 0, none⟩), .pointer (some ⟨h, 0, none⟩)]] 34)
  have s2 := blk_new w1 (.cells #[.func (.func 30) #[] #[.pointer (some ⟨g, 0, none⟩), .pointer (some ⟨h, 0, none⟩)]] 34)
  have hg2 := Aside0.mk (blk_alloc hg (.cells #[.func (.func 30) #[] #[.pointer (some ⟨g, 0, none⟩), .pointer (some ⟨h, 0, none⟩)]] 34))
  have hh2 := Aside0.mk (blk_alloc hh (.cells #[.func (.func 30) #[] #[.pointer (some ⟨g, 0, none⟩), .pointer (some ⟨h, 0, none⟩)]] 34))
  have HB2 := Aside0.mk (below_alloc HB (.cells #[.func (.func 30) #[] #[.pointer (some ⟨g, 0, none⟩), .pointer (some ⟨h, 0, none⟩)]] 34))
  have hl1 := blk_lt r1
  have c0 := blk_cell s0 0
  have c1 := blk_cell s1 0
  have c2 := blk_cell s2 0
  have f0 := blk_frozen s0 0
  have S0 := Aside0.mk s0
  clear hg hh r0 r1 hb HB s0 s1 s2
  simp only [List.getElem?_toArray, List.getElem?_cons_zero] at c0 c1 c2
  simp only [fW]
  have u0 := blk_cell (blk_set S0.out 0 (.func (.func 30) #[] #[.pointer (some ⟨g, 0, none⟩), .pointer (some ⟨h, 0, none⟩)])) 0
  simp only [List.setIfInBounds_toArray, List.set_cons_zero, List.getElem?_toArray, List.getElem?_cons_zero] at u0
  go_wp2_with (fail)
  (try simp only [Exit.inBlock, Exit.then])
  refine bodyPost_ret (v := .agg #[.func (.func 30) #[] #[.pointer (some ⟨g, 0, none⟩), .pointer (some ⟨h, 0, none⟩)]]) (by simp [results, Try.results17, go_sem, u0]) rfl ?_
  refine ⟨_, rfl, ?_, Below.setCell (p := ⟨w.heap.size, 0, none⟩) HB2.out (Nat.le_refl _) _⟩
  exact .inr (.inl ⟨g, h, sQ, rfl, blk_far hg2.out (by simp; omega) _, blk_far hh2.out (by simp; omega) _, fun c => rfl⟩)
set_option maxHeartbeats 2000000 in
set_option maxRecDepth 100000 in
theorem sets0 (n : Int) (hn : n < 1 ∨ 5 < n) (w : World) :
    Calls Try.prog 17 #[.int .i64 n] w fun e w' => ∃ v, e = .returned (.agg #[v]) ∧ IsSet w' n v ∧ Below w.heap.size w w' := by
  have n1 : (n == 1) = false := by simp; omega
  have n2 : (n == 2) = false := by simp; omega
  have n3 : (n == 3) = false := by simp; omega
  have n4 : (n == 4) = false := by simp; omega
  have n5 : (n == 5) = false := by simp; omega
  go_enter Try.func17, Try.ntmps17
  go_wp2_with (fail)
  refine (with_a _ _).mono ?_
  rintro e w1 ⟨g, h, rfl, hg, hh, gl, hl, hb⟩
  have r0 : w1.heap[w.heap.size]? = some (.cells #[.nilFunc] 34 (0, 0)) := blk_below (blk_alloc (blk_new _ _) _) hb
  have r1 : w1.heap[w.heap.size + 1]? = some (.cells #[.func (.func 25) #[] #[]] 34 (0, 0)) := blk_below (by have h := blk_new (w.alloc (.cells #[.nilFunc] 34)) (.cells #[.func (.func 25) #[] #[]] 34); simpa using h) hb
  have HB := below_then (below_alloc (below_alloc (Below.refl w.heap.size w) _) _) (by simp; omega) hb
  simp only [World.size_alloc] at gl hl
  have s0 := blk_alloc r0 (.cells #[.func (.func 30) #[] #[.pointer (some ⟨g, 0, none⟩), .pointer (some ⟨h, 0, none⟩)]] 34)
  have s1 := blk_alloc r1 (.cells #[.func (.func 30) #[] #[.pointer (some ⟨g, 0, none⟩), .pointer (some ⟨h, 0, none⟩)]] 34)
  have s2 := blk_new w1 (.cells #[.func (.func 30) #[] #[.pointer (some ⟨g, 0, none⟩), .pointer (some ⟨h, 0, none⟩)]] 34)
  have hg2 := Aside0.mk (blk_alloc hg (.cells #[.func (.func 30) #[] #[.pointer (some ⟨g, 0, none⟩), .pointer (some ⟨h, 0, none⟩)]] 34))
  have hh2 := Aside0.mk (blk_alloc hh (.cells #[.func (.func 30) #[] #[.pointer (some ⟨g, 0, none⟩), .pointer (some ⟨h, 0, none⟩)]] 34))
  have HB2 := Aside0.mk (below_alloc HB (.cells #[.func (.func 30) #[] #[.pointer (some ⟨g, 0, none⟩), .pointer (some ⟨h, 0, none⟩)]] 34))
  have hl1 := blk_lt r1
  have c0 := blk_cell s0 0
  have c1 := blk_cell s1 0
  have c2 := blk_cell s2 0
  have f0 := blk_frozen s0 0
  have S0 := Aside0.mk s0
  clear hg hh r0 r1 hb HB s0 s1 s2
  simp only [List.getElem?_toArray, List.getElem?_cons_zero] at c0 c1 c2
  simp only [fW]
  have u0 := blk_cell (blk_set S0.out 0 (.func (.func 27) #[] #[])) 0
  simp only [List.setIfInBounds_toArray, List.set_cons_zero, List.getElem?_toArray, List.getElem?_cons_zero] at u0
  go_wp2_with (fail)
  (try simp only [Exit.inBlock, Exit.then])
  refine bodyPost_ret (v := .agg #[.func (.func 27) #[] #[]]) (by simp [results, Try.results17, go_sem, u0]) rfl ?_
  refine ⟨_, rfl, ?_, Below.setCell (p := ⟨w.heap.size, 0, none⟩) HB2.out (Nat.le_refl _) _⟩
  exact .inr (.inr (.inr ⟨rfl, fun c => by unfold inSet; rw [if_neg (by omega), if_neg (by omega), if_neg (by omega), if_neg (by omega), if_neg (by omega)]⟩))
set_option maxHeartbeats 2000000 in
set_option maxRecDepth 100000 in
theorem sets2 (n : Int) (hn : n = 2) (w : World) :
    Calls Try.prog 17 #[.int .i64 n] w fun e w' => ∃ v, e = .returned (.agg #[v]) ∧ IsSet w' n v ∧ Below w.heap.size w w' := by
  subst hn
  go_enter Try.func17, Try.ntmps17
  go_wp2_with (fail)
  refine (with_a _ _).mono ?_
  rintro e w1 ⟨g, h, rfl, hg, hh, gl, hl, hb⟩
  have r0 : w1.heap[w.heap.size]? = some (.cells #[.nilFunc] 34 (0, 0)) := blk_below (blk_alloc (blk_new _ _) _) hb
  have r1 : w1.heap[w.heap.size + 1]? = some (.cells #[.func (.func 25) #[] #[]] 34 (0, 0)) := blk_below (by have h := blk_new (w.alloc (.cells #[.nilFunc] 34)) (.cells #[.func (.func 25) #[] #[]] 34); simpa using h) hb
  have HB := below_then (below_alloc (below_alloc (Below.refl w.heap.size w) _) _) (by simp; omega) hb
  simp only [World.size_alloc] at gl hl
  have s0 := blk_alloc r0 (.cells #[.func (.func 30) #[] #[.pointer (some ⟨g, 0, none⟩), .pointer (some ⟨h, 0, none⟩)]] 34)
  have s1 := blk_alloc r1 (.cells #[.func (.func 30) #[] #[.pointer (some ⟨g, 0, none⟩), .pointer (some ⟨h, 0, none⟩)]] 34)
  have s2 := blk_new w1 (.cells #[.func (.func 30) #[] #[.pointer (some ⟨g, 0, none⟩), .pointer (some ⟨h, 0, none⟩)]] 34)
  have hg2 := Aside0.mk (blk_alloc hg (.cells #[.func (.func 30) #[] #[.pointer (some ⟨g, 0, none⟩), .pointer (some ⟨h, 0, none⟩)]] 34))
  have hh2 := Aside0.mk (blk_alloc hh (.cells #[.func (.func 30) #[] #[.pointer (some ⟨g, 0, none⟩), .pointer (some ⟨h, 0, none⟩)]] 34))
  have HB2 := Aside0.mk (below_alloc HB (.cells #[.func (.func 30) #[] #[.pointer (some ⟨g, 0, none⟩), .pointer (some ⟨h, 0, none⟩)]] 34))
  have hl1 := blk_lt r1
  have c0 := blk_cell s0 0
  have c1 := blk_cell s1 0
  have c2 := blk_cell s2 0
  have f0 := blk_frozen s0 0
  have S0 := Aside0.mk s0
  clear hg hh r0 r1 hb HB s0 s1 s2
  simp only [List.getElem?_toArray, List.getElem?_cons_zero] at c0 c1 c2
  simp only [fW]
  go_wp2_with (fail)
  refine (with_a _ _).mono ?_
  rintro e w3 ⟨g', h', rfl, hg', hh', gl', hl', hb⟩
  have t0 := blk_below S0.out hb
  have d0 := blk_cell t0 0
  have e0 := blk_frozen t0 0
  have hg3 := Aside0.mk (blk_below hg2.out hb)
  have hh3 := Aside0.mk (blk_below hh2.out hb)
  have HB3 := Aside0.mk (below_then HB2.out HB2.out.size hb)
  simp only [World.size_alloc] at gl' hl'
  have u0 := blk_cell (blk_set t0 0 (.func (.func 30) #[] #[.pointer (some ⟨g', 0, none⟩), .pointer (some ⟨h', 0, none⟩)])) 0
  clear S0 c0 c1 c2 f0 t0 hb hg2 hh2 HB2
  simp only [List.getElem?_toArray, List.getElem?_cons_zero] at d0
  simp only [List.setIfInBounds_toArray, List.set_cons_zero, List.getElem?_toArray, List.getElem?_cons_zero] at u0
  simp only [fW]
  go_wp2_with (fail)
  (try simp only [Exit.inBlock, Exit.then])
  refine bodyPost_ret (v := .agg #[.func (.func 30) #[] #[.pointer (some ⟨g', 0, none⟩), .pointer (some ⟨h', 0, none⟩)]]) (by simp [results, Try.results17, go_sem, u0]) rfl ?_
  refine ⟨_, rfl, ?_, Below.setCell (p := ⟨w.heap.size, 0, none⟩) HB3.out (Nat.le_refl _) _⟩
  exact .inr (.inl ⟨g', h', sF, rfl, blk_far hg' (by simp; omega) _, blk_far hh' (by simp; omega) _, fun c => rfl⟩)
set_option maxHeartbeats 2000000 in
set_option maxRecDepth 100000 in
theorem sets4 (n : Int) (hn : n = 4) (w : World) :
    Calls Try.prog 17 #[.int .i64 n] w fun e w' => ∃ v, e = .returned (.agg #[v]) ∧ IsSet w' n v ∧ Below w.heap.size w w' := by
  subst hn
  go_enter Try.func17, Try.ntmps17
  go_wp2_with (fail)
  refine (with_a _ _).mono ?_
  rintro e w1 ⟨g, h, rfl, hg, hh, gl, hl, hb⟩
  have r0 : w1.heap[w.heap.size]? = some (.cells #[.nilFunc] 34 (0, 0)) := blk_below (blk_alloc (blk_new _ _) _) hb
  have r1 : w1.heap[w.heap.size + 1]? = some (.cells #[.func (.func 25) #[] #[]] 34 (0, 0)) := blk_below (by have h := blk_new (w.alloc (.cells #[.nilFunc] 34)) (.cells #[.func (.func 25) #[] #[]] 34); simpa using h) hb
  have HB := below_then (below_alloc (below_alloc (Below.refl w.heap.size w) _) _) (by simp; omega) hb
  simp only [World.size_alloc] at gl hl
  have s0 := blk_alloc r0 (.cells #[.func (.func 30) #[] #[.pointer (some ⟨g, 0, none⟩), .pointer (some ⟨h, 0, none⟩)]] 34)
  have s1 := blk_alloc r1 (.cells #[.func (.func 30) #[] #[.pointer (some ⟨g, 0, none⟩), .pointer (some ⟨h, 0, none⟩)]] 34)
  have s2 := blk_new w1 (.cells #[.func (.func 30) #[] #[.pointer (some ⟨g, 0, none⟩), .pointer (some ⟨h, 0, none⟩)]] 34)
  have hg2 := Aside0.mk (blk_alloc hg (.cells #[.func (.func 30) #[] #[.pointer (some ⟨g, 0, none⟩), .pointer (some ⟨h, 0, none⟩)]] 34))
  have hh2 := Aside0.mk (blk_alloc hh (.cells #[.func (.func 30) #[] #[.pointer (some ⟨g, 0, none⟩), .pointer (some ⟨h, 0, none⟩)]] 34))
  have HB2 := Aside0.mk (below_alloc HB (.cells #[.func (.func 30) #[] #[.pointer (some ⟨g, 0, none⟩), .pointer (some ⟨h, 0, none⟩)]] 34))
  have hl1 := blk_lt r1
  have c0 := blk_cell s0 0
  have c1 := blk_cell s1 0
  have c2 := blk_cell s2 0
  have f0 := blk_frozen s0 0
  have S0 := Aside0.mk s0
  clear hg hh r0 r1 hb HB s0 s1 s2
  simp only [List.getElem?_toArray, List.getElem?_cons_zero] at c0 c1 c2
  simp only [fW]
  go_wp2_with (fail)
  refine (with_b _ _ _ _).mono ?_
  rintro e w3 ⟨g', h', rfl, hg', hh', gl', hl', hb⟩
  have t0 := blk_below S0.out hb
  have d0 := blk_cell t0 0
  have e0 := blk_frozen t0 0
  have hg3 := Aside0.mk (blk_below hg2.out hb)
  have hh3 := Aside0.mk (blk_below hh2.out hb)
  have HB3 := Aside0.mk (below_then HB2.out HB2.out.size hb)
  simp only [World.size_alloc] at gl' hl'
  have u0 := blk_cell (blk_set t0 0 (.func (.func 30) #[] #[.pointer (some ⟨g', 0, none⟩), .pointer (some ⟨h', 0, none⟩)])) 0
  clear S0 c0 c1 c2 f0 t0 hb hg2 hh2 HB2
  simp only [List.getElem?_toArray, List.getElem?_cons_zero] at d0
  simp only [List.setIfInBounds_toArray, List.set_cons_zero, List.getElem?_toArray, List.getElem?_cons_zero] at u0
  simp only [fW]
  go_wp2_with (fail)
  (try simp only [Exit.inBlock, Exit.then])
  refine bodyPost_ret (v := .agg #[.func (.func 30) #[] #[.pointer (some ⟨g', 0, none⟩), .pointer (some ⟨h', 0, none⟩)]]) (by simp [results, Try.results17, go_sem, u0]) rfl ?_
  refine ⟨_, rfl, ?_, Below.setCell (p := ⟨w.heap.size, 0, none⟩) HB3.out (Nat.le_refl _) _⟩
  exact .inr (.inr (.inl ⟨g', h', sS, g, h, sQ, rfl, blk_far hg' (by simp; omega) _, blk_far hh' (by simp; omega) _, blk_far hg3.out (by simp; omega) _, blk_far hh3.out (by simp; omega) _, fun c => rfl⟩))
set_option maxHeartbeats 2000000 in
set_option maxRecDepth 100000 in
theorem sets5 (n : Int) (hn : n = 5) (w : World) :
    Calls Try.prog 17 #[.int .i64 n] w fun e w' => ∃ v, e = .returned (.agg #[v]) ∧ IsSet w' n v ∧ Below w.heap.size w w' := by
  subst hn
  go_enter Try.func17, Try.ntmps17
  go_wp2_with (fail)
  refine (with_a _ _).mono ?_
  rintro e w1 ⟨g, h, rfl, hg, hh, gl, hl, hb⟩
  have r0 : w1.heap[w.heap.size]? = some (.cells #[.nilFunc] 34 (0, 0)) := blk_below (blk_alloc (blk_new _ _) _) hb
  have r1 : w1.heap[w.heap.size + 1]? = some (.cells #[.func (.func 25) #[] #[]] 34 (0, 0)) := blk_below (by have h := blk_new (w.alloc (.cells #[.nilFunc] 34)) (.cells #[.func (.func 25) #[] #[]] 34); simpa using h) hb
  have HB := below_then (below_alloc (below_alloc (Below.refl w.heap.size w) _) _) (by simp; omega) hb
  simp only [World.size_alloc] at gl hl
  have s0 := blk_alloc r0 (.cells #[.func (.func 30) #[] #[.pointer (some ⟨g, 0, none⟩), .pointer (some ⟨h, 0, none⟩)]] 34)
  have s1 := blk_alloc r1 (.cells #[.func (.func 30) #[] #[.pointer (some ⟨g, 0, none⟩), .pointer (some ⟨h, 0, none⟩)]] 34)
  have s2 := blk_new w1 (.cells #[.func (.func 30) #[] #[.pointer (some ⟨g, 0, none⟩), .pointer (some ⟨h, 0, none⟩)]] 34)
  have hg2 := Aside0.mk (blk_alloc hg (.cells #[.func (.func 30) #[] #[.pointer (some ⟨g, 0, none⟩), .pointer (some ⟨h, 0, none⟩)]] 34))
  have hh2 := Aside0.mk (blk_alloc hh (.cells #[.func (.func 30) #[] #[.pointer (some ⟨g, 0, none⟩), .pointer (some ⟨h, 0, none⟩)]] 34))
  have HB2 := Aside0.mk (below_alloc HB (.cells #[.func (.func 30) #[] #[.pointer (some ⟨g, 0, none⟩), .pointer (some ⟨h, 0, none⟩)]] 34))
  have hl1 := blk_lt r1
  have c0 := blk_cell s0 0
  have c1 := blk_cell s1 0
  have c2 := blk_cell s2 0
  have f0 := blk_frozen s0 0
  have S0 := Aside0.mk s0
  clear hg hh r0 r1 hb HB s0 s1 s2
  simp only [List.getElem?_toArray, List.getElem?_cons_zero] at c0 c1 c2
  simp only [fW]
  go_wp2_with (fail)
  refine (with_b _ _ _ _).mono ?_
  rintro e w3 ⟨g', h', rfl, hg', hh', gl', hl', hb⟩
  have t0 := blk_below S0.out hb
  have d0 := blk_cell t0 0
  have e0 := blk_frozen t0 0
  have hg3 := Aside0.mk (blk_below hg2.out hb)
  have hh3 := Aside0.mk (blk_below hh2.out hb)
  have HB3 := Aside0.mk (below_then HB2.out HB2.out.size hb)
  simp only [World.size_alloc] at gl' hl'
  have u0 := blk_cell (blk_set t0 0 (.func (.func 30) #[] #[.pointer (some ⟨g', 0, none⟩), .pointer (some ⟨h', 0, none⟩)])) 0
  clear S0 c0 c1 c2 f0 t0 hb hg2 hh2 HB2
  simp only [List.getElem?_toArray, List.getElem?_cons_zero] at d0
  simp only [List.setIfInBounds_toArray, List.set_cons_zero, List.getElem?_toArray, List.getElem?_cons_zero] at u0
  simp only [fW]
  go_wp2_with (fail)
  (try simp only [Exit.inBlock, Exit.then])
  refine bodyPost_ret (v := .agg #[.func (.func 30) #[] #[.pointer (some ⟨g', 0, none⟩), .pointer (some ⟨h', 0, none⟩)]]) (by simp [results, Try.results17, go_sem, u0]) rfl ?_
  refine ⟨_, rfl, ?_, Below.setCell (p := ⟨w.heap.size, 0, none⟩) HB3.out (Nat.le_refl _) _⟩
  exact .inr (.inr (.inl ⟨g', h', sP, g, h, sQ, rfl, blk_far hg' (by simp; omega) _, blk_far hh' (by simp; omega) _, blk_far hg3.out (by simp; omega) _, blk_far hh3.out (by simp; omega) _, fun c => rfl⟩))
theorem sets_calls (n : Int) (w : World) :
    Calls Try.prog 17 #[.int .i64 n] w fun e w' => ∃ v, e = .returned (.agg #[v]) ∧ IsSet w' n v ∧ Below w.heap.size w w' := by
  rcases (by omega : n < 1 ∨ 5 < n ∨ n = 1 ∨ n = 2 ∨ n = 3 ∨ n = 4 ∨ n = 5) with h | h | h | h | h | h | h
  · exact sets0 n (.inl h) w
  · exact sets0 n (.inr h) w
  · exact sets1 n h w
  · exact sets2 n h w
  · exact sets3 n h w
  · exact sets4 n h w
  · exact sets5 n h w
end Go.Proofs.Ytpofepfkalighaa.Ext
