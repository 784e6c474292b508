/- An event in a block of its own: what the laws' walks read and write. -/
import Derived.Test.YtmlhlcdamppbfaaDoorXax3
import Derived.Test.YtmlhlcdamppbfaaDoorXax1
import Derived.Test.YtmlhlcdamppbfaaDoorEvP
namespace Go.Proofs.YtmlhlcdamppbfaaDoor.Xa
open Go.RowKit Go.Proofs.YtmlhlcdamppbfaaDoor.Ext Go.Proofs.YtmlhlcdamppbfaaDoor.Pure Go.Proofs.YtmlhlcdamppbfaaDoorW.PrintWords Go.Proofs.YtmlhlcdamppbfaaDoorW.PrintLast Go.Proofs.YtmlhlcdamppbfaaDoorW.PrintMore
set_option linter.unusedVariables false
abbrev ten (a0 a1 a2 : Int) (a3 a4 a5 a6 : ByteArray) (a7 a8 a9 : Int) : Array Value := #[.int .i64 a0, .int .u64 a1, .int .u64 a2, .string a3, .string a4, .string a5, .string a6, .int .i64 a7, .int .i64 a8, .int .i64 a9]
structure Box (w W : World) (g : Nat) (c : Array Value) : Prop where
  base : w.heap.size ≤ g
  blk : W.heap[g]? = some (.cells c 24 (0, 0))
section
variable {w W W' : World} {g h : Nat} {c d : Array Value}
theorem Box.then_ (b : Box w W g c) (hb : Below W.heap.size W W') : Box w W' g c := ⟨b.base, blk_below b.blk hb⟩
theorem Box.alloc (b : Box w W g c) (o : Obj) : Box w (W.alloc o) g c := ⟨b.base, blk_alloc b.blk _⟩
theorem Box.drewN (b : Box w W g c) (n : Nat) : Box w (W.drewN n) g c := ⟨b.base, b.blk⟩
theorem Box.new (h : w.heap.size ≤ W.heap.size) (c : Array Value) : Box w (W.alloc (.cells c 24)) W.heap.size c := ⟨h, blk_new _ _⟩
theorem Box.far (b : Box w W g c) (hn : g ≠ h) (j : Nat) (v : Value) : Box w (W.setCell ⟨h, j, none⟩ v) g c := ⟨b.base, blk_far b.blk hn v⟩
/-- A whole event stored. -/
abbrev put24 (W : World) (g : Nat) (v0 v1 v2 v3 v4 v5 v6 v7 v8 v9 : Value) : World := (((((((((W.setCell ⟨g, 0, none⟩ v0).setCell ⟨g, 1, none⟩ v1).setCell ⟨g, 2, none⟩ v2).setCell ⟨g, 3, none⟩ v3).setCell ⟨g, 4, none⟩ v4).setCell ⟨g, 5, none⟩ v5).setCell ⟨g, 6, none⟩ v6).setCell ⟨g, 7, none⟩ v7).setCell ⟨g, 8, none⟩ v8).setCell ⟨g, 9, none⟩ v9
theorem Box.put {z0 z1 z2 z3 z4 z5 z6 z7 z8 z9 : Value} (b : Box w W g #[z0, z1, z2, z3, z4, z5, z6, z7, z8, z9]) (v0 v1 v2 v3 v4 v5 v6 v7 v8 v9 : Value) : Box w (put24 W g v0 v1 v2 v3 v4 v5 v6 v7 v8 v9) g #[v0, v1, v2, v3, v4, v5, v6, v7, v8, v9] := by
  have h0 : (W.setCell ⟨g, 0, none⟩ v0).heap[g]? = some (.cells #[v0, z1, z2, z3, z4, z5, z6, z7, z8, z9] 24 (0, 0)) := blk_put b.blk 0 v0 rfl
  have h1 : ((W.setCell ⟨g, 0, none⟩ v0).setCell ⟨g, 1, none⟩ v1).heap[g]? = some (.cells #[v0, v1, z2, z3, z4, z5, z6, z7, z8, z9] 24 (0, 0)) := blk_put h0 1 v1 rfl
  have h2 := blk_put h1 2 v2 (show #[v0, v1, z2, z3, z4, z5, z6, z7, z8, z9].setIfInBounds 2 v2 = #[v0, v1, v2, z3, z4, z5, z6, z7, z8, z9] from rfl)
  have h3 := blk_put h2 3 v3 (show #[v0, v1, v2, z3, z4, z5, z6, z7, z8, z9].setIfInBounds 3 v3 = #[v0, v1, v2, v3, z4, z5, z6, z7, z8, z9] from rfl)
  have h4 := blk_put h3 4 v4 (show #[v0, v1, v2, v3, z4, z5, z6, z7, z8, z9].setIfInBounds 4 v4 = #[v0, v1, v2, v3, v4, z5, z6, z7, z8, z9] from rfl)
  have h5 := blk_put h4 5 v5 (show #[v0, v1, v2, v3, v4, z5, z6, z7, z8, z9].setIfInBounds 5 v5 = #[v0, v1, v2, v3, v4, v5, z6, z7, z8, z9] from rfl)
  have h6 := blk_put h5 6 v6 (show #[v0, v1, v2, v3, v4, v5, z6, z7, z8, z9].setIfInBounds 6 v6 = #[v0, v1, v2, v3, v4, v5, v6, z7, z8, z9] from rfl)
  have h7 := blk_put h6 7 v7 (show #[v0, v1, v2, v3, v4, v5, v6, z7, z8, z9].setIfInBounds 7 v7 = #[v0, v1, v2, v3, v4, v5, v6, v7, z8, z9] from rfl)
  have h8 := blk_put h7 8 v8 (show #[v0, v1, v2, v3, v4, v5, v6, v7, z8, z9].setIfInBounds 8 v8 = #[v0, v1, v2, v3, v4, v5, v6, v7, v8, z9] from rfl)
  have h9 := blk_put h8 9 v9 (show #[v0, v1, v2, v3, v4, v5, v6, v7, v8, z9].setIfInBounds 9 v9 = #[v0, v1, v2, v3, v4, v5, v6, v7, v8, v9] from rfl)
  exact ⟨b.base, h9⟩
theorem Box.put_far (b : Box w W g c) (hn : g ≠ h) (v0 v1 v2 v3 v4 v5 v6 v7 v8 v9 : Value) : Box w (put24 W h v0 v1 v2 v3 v4 v5 v6 v7 v8 v9) g c :=
  (((((((((b.far hn 0 v0).far hn 1 v1).far hn 2 v2).far hn 3 v3).far hn 4 v4).far hn 5 v5).far hn 6 v6).far hn 7 v7).far hn 8 v8).far hn 9 v9
theorem put24_below (hb : Below w.heap.size w W) (hg : w.heap.size ≤ g) (v0 v1 v2 v3 v4 v5 v6 v7 v8 v9 : Value) : Below w.heap.size w (put24 W g v0 v1 v2 v3 v4 v5 v6 v7 v8 v9) :=
  (((((((((hb.setCell hg _).setCell hg _).setCell hg _).setCell hg _).setCell hg _).setCell hg _).setCell hg _).setCell hg _).setCell hg _).setCell hg _
theorem Box.read {a0 a1 a2 : Int} {a3 a4 a5 a6 : ByteArray} {a7 a8 a9 : Int} (b : Box w W g (ten a0 a1 a2 a3 a4 a5 a6 a7 a8 a9)) :
    W.cell? ⟨g, 0, none⟩ = some (.int .i64 a0) ∧ W.cell? ⟨g, 1, none⟩ = some (.int .u64 a1) ∧ W.cell? ⟨g, 2, none⟩ = some (.int .u64 a2) ∧ W.cell? ⟨g, 3, none⟩ = some (.string a3) ∧ W.cell? ⟨g, 4, none⟩ = some (.string a4) ∧
    W.cell? ⟨g, 5, none⟩ = some (.string a5) ∧ W.cell? ⟨g, 6, none⟩ = some (.string a6) ∧ W.cell? ⟨g, 7, none⟩ = some (.int .i64 a7) ∧ W.cell? ⟨g, 8, none⟩ = some (.int .i64 a8) ∧ W.cell? ⟨g, 9, none⟩ = some (.int .i64 a9) :=
  ⟨blk_cell b.blk 0, blk_cell b.blk 1, blk_cell b.blk 2, blk_cell b.blk 3, blk_cell b.blk 4, blk_cell b.blk 5, blk_cell b.blk 6, blk_cell b.blk 7, blk_cell b.blk 8, blk_cell b.blk 9⟩
theorem Box.free {z0 z1 z2 z3 z4 z5 z6 z7 z8 z9 : Value} (b : Box w W g #[z0, z1, z2, z3, z4, z5, z6, z7, z8, z9]) :
    W.frozen? ⟨g, 0, none⟩ = false ∧ W.frozen? ⟨g, 1, none⟩ = false ∧ W.frozen? ⟨g, 2, none⟩ = false ∧ W.frozen? ⟨g, 3, none⟩ = false ∧ W.frozen? ⟨g, 4, none⟩ = false ∧ W.frozen? ⟨g, 5, none⟩ = false ∧ W.frozen? ⟨g, 6, none⟩ = false ∧ W.frozen? ⟨g, 7, none⟩ = false ∧ W.frozen? ⟨g, 8, none⟩ = false ∧ W.frozen? ⟨g, 9, none⟩ = false :=
  ⟨blk_frozen b.blk 0, blk_frozen b.blk 1, blk_frozen b.blk 2, blk_frozen b.blk 3, blk_frozen b.blk 4, blk_frozen b.blk 5, blk_frozen b.blk 6, blk_frozen b.blk 7, blk_frozen b.blk 8, blk_frozen b.blk 9⟩
end
section
variable {w W W' : World} {g h : Nat} {c d : Array Value}
theorem Box.row (b : Box w W g c) (d : Array Value) : Box w (W.setRow g d) g d := ⟨b.base, setRow_heap W g c d 24 (0, 0) b.blk⟩
theorem Box.row_far (b : Box w W g c) (hn : g ≠ h) (d : Array Value) : Box w (W.setRow h d) g c := ⟨b.base, by rw [setRow_other W h g d hn]; exact b.blk⟩
theorem setRow_below (hb : Below w.heap.size w W) (hg : w.heap.size ≤ g) (d : Array Value) : Below w.heap.size w (W.setRow g d) :=
  ⟨hb.os, hb.tape, hb.output, by rw [setRow_size]; exact hb.size, fun k hk => by rw [setRow_other W g k d (by omega)]; exact hb.block k hk⟩
end
theorem str_all {W : World} {A : Option Addr} {xs : List Int} (h : Kd.C (Kd.int .u8) W A xs.length xs) (c : Nat) (d : Nat) : (convert 27 9 (.slice A xs.length c)).run Tryd.prog (W.drewN d) = .ok (.string (strOfNums xs)) (W.drewN d) :=
  Kd.C_string (P := Tryd.prog) Tryd.underlying27 Tryd.underlying5 Tryd.underlying9 (Kd.C_drewN h d)
theorem str_cut {W : World} {A : Option Addr} {xs : List Int} (h : Kd.C (Kd.int .u8) W A xs.length xs) (m : Nat) (hm : m ≤ xs.length) (c : Nat) (d : Nat) : (convert 27 9 (.slice A m c)).run Tryd.prog (W.drewN d) = .ok (.string (strOfNums (xs.take m))) (W.drewN d) := by
  have h2 := Kd.C_take (Kd.C_drewN h d) hm
  have hl : (xs.take m).length = m := by rw [List.length_take]; omega
  rw [hl] at h2
  exact Kd.C_string (P := Tryd.prog) Tryd.underlying27 Tryd.underlying5 Tryd.underlying9 h2
theorem ten_one (a0 a1 a2 : Int) (a3 a4 a5 a6 : ByteArray) (a7 a8 a9 : Int) : (ten a0 a1 a2 a3 a4 a5 a6 a7 a8 a9).all (·.oneCell') = true := by simp [Value.oneCell']
/-- Cut. -/
theorem cut_calls (a0 a1 a2 : Int) (a3 a4 a5 a6 : ByteArray) (a7 a8 a9 : Int) (w : World) :
    Calls Tryd.prog 12 #[.agg (ten a0 a1 a2 a3 a4 a5 a6 a7 a8 a9)] w fun e w' => e = .returned (.agg (ten a0 a1 a2 (cutS a3) (cutS a4) (cutS a5) (cutS a6) a7 a8 a9)) ∧ Below w.heap.size w w' :=
  transeptlaw05_cut.calls a0 a1 a2 a3 a4 a5 a6 a7 a8 a9 a0 a1 a2 (cutS a3) (cutS a4) (cutS a5) (cutS a6) a7 a8 a9 w (cut_f (a0, a1, a2, a3, a4, a5, a6, a7, a8, a9))
theorem dec_w {a0 a1 a2 : Int} {a3 a4 a5 a6 : ByteArray} {a7 a8 a9 pos er : Int} (A : Option Addr) (c n : Nat) (b : List Int) (hn : b.length = n) (hc : n ≤ c) {W : World} (hG : Glob W) (hC : Kd.C (Kd.int .u8) W A n b)
    (h : event_Decode.f b = some (a0, a1, a2, a3, a4, a5, a6, a7, a8, a9, pos, er)) :
    Calls Tryd.prog 17 #[.slice A n c] W fun e w' => e = .returned (.tuple #[.agg (ten a0 a1 a2 a3 a4 a5 a6 a7 a8 a9), .int .i64 pos, .int .i64 er]) ∧ Below W.heap.size W w' := by
  subst hn
  exact event_Decode.calls A c b a0 a1 a2 a3 a4 a5 a6 a7 a8 a9 pos er W hG hC hc h
theorem str_of {W : World} {A : Option Addr} {xs : List Int} {n : Nat} (h : Kd.C (Kd.int .u8) W A n xs) (c : Nat) (d : Nat) : (convert 27 9 (.slice A n c)).run Tryd.prog (W.drewN d) = .ok (.string (strOfNums xs)) (W.drewN d) :=
  Kd.C_string (P := Tryd.prog) Tryd.underlying27 Tryd.underlying5 Tryd.underlying9 (Kd.C_drewN h d)
theorem cut_C {W : World} {A : Option Addr} {xs : List Int} (h : Kd.C (Kd.int .u8) W A xs.length xs) (m : Nat) (hm : m ≤ xs.length) : Kd.C (Kd.int .u8) W A m (xs.take m) := by
  have h2 := Kd.C_take h hm
  have hl : (xs.take m).length = m := by rw [List.length_take]; omega
  rwa [hl] at h2
theorem Box.fresh {w W : World} (h : Below w.heap.size w W) (c : Array Value) : Box w (W.alloc (.cells c 24)) W.heap.size c := Box.new h.size c
end Go.Proofs.YtmlhlcdamppbfaaDoor.Xa
