/- A row of ops: read, and opened. -/
import Derived.Test.YtkomjplajfjpkaaLat
import Derived.Deep.Slices
namespace Go.Proofs.Ytkomjplajfjpkaa.Ext
open Go.RowKit Go.Proofs.YtkomjplajfjpkaaW.PrintWords Go.Proofs.YtkomjplajfjpkaaW.PrintLast
set_option linter.unusedVariables false
structure S33 where
  f0 : Int
  f1 : ByteArray
  f2 : Int
def z33 : S33 := ⟨0, ⟨#[]⟩, 0⟩
def k33 : Kd S33 := Kd.iso (Kd.pair (Kd.int .i64) (Kd.pair Kd.string (Kd.int .u64))) (fun x : S33 => (x.f0, x.f1, x.f2))
theorem k33_open {w : World} {x : S33} {cs : List Value} (h : k33.K w x cs) : cs = [.int .i64 x.f0, .string x.f1, .int .u64 x.f2] := by
  obtain ⟨_, _, rfl, rfl, ⟨_, _, rfl, rfl, rfl⟩⟩ := h
  exact rfl
theorem k33_mk (w : World) (x : S33) : k33.K w x [.int .i64 x.f0, .string x.f1, .int .u64 x.f2] := ⟨[.int .i64 x.f0], [.string x.f1, .int .u64 x.f2], rfl, rfl, ⟨[.string x.f1], [.int .u64 x.f2], rfl, rfl, rfl⟩⟩
def rd_T33 (xs : List S33) (i : Int) : S33 := xs.getD i.toNat z33
theorem at_T33 {w : World} {A : Option Addr} {n : Nat} {xs : List S33} (h : Kd.C k33 w A n xs) (i : Int) (h0 : 0 ≤ i) (h1 : i < n) : ∃ ad , A = some ad ∧ w.cell? (ad.add (i.toNat * 3)) = some (.int .i64 (rd_T33 xs i).f0) ∧ w.cell? ⟨(ad.add (i.toNat * 3)).block, (ad.add (i.toNat * 3)).off + 1, none⟩ = some (.string (rd_T33 xs i).f1) ∧ w.cell? ⟨(ad.add (i.toNat * 3)).block, (ad.add (i.toNat * 3)).off + 2, none⟩ = some (.int .u64 (rd_T33 xs i).f2) := by
  obtain ⟨ad, c, e, _, hK, hc0⟩ := Kd.C_get h z33 i h0 h1
  have hc : ∀ j u, c[j]? = some u → w.cell? (ad.add (i.toNat * 3 + j)) = some u := hc0
  obtain rfl := k33_open hK
  exact ⟨ad, e, hc 0 _ rfl, by rw [← add_field _ _ 1 (by omega)]; exact hc 1 _ rfl, by rw [← add_field _ _ 2 (by omega)]; exact hc 2 _ rfl⟩
theorem open_one {H : Type} {enc : TypeId × Value → H} {w : World} {base fuel : Nat} {spare : Nat → Bool} {held : Bool} {cs : List Value} {x : DataW H × List MemPlace} (hlen : cs.length = 3) (h : DataW.trod enc Try.prog w base spare held fuel 33 cs = some x) :
    ∃ e : S33, cs = [.int .i64 e.f0, .string e.f1, .int .u64 e.f2] ∧ e.f1.size ≤ maxLen ∧ (Lit.int .u64 e.f2).wf = true := by
  have c3 : Try.prog.cellsOf 3 = 1 := by kernel_rfl
  have c9 : Try.prog.cellsOf 9 = 1 := by kernel_rfl
  have c23 : Try.prog.cellsOf 23 = 1 := by kernel_rfl
  match cs, hlen with
  | [q0, q1, q2], _ =>
    obtain ⟨xs, n, _, hx, _, hlen, hg⟩ := DataW.trod_struct Try.underlying33 h
    match xs, hlen with
    | [y0, y1, y2], _ =>
      have g0 : DataW.trod enc Try.prog w base spare held n 3 [q0] = some y0 := by simpa [c3] using hg 0 _ rfl
      have g1 : DataW.trod enc Try.prog w base spare held n 9 [q1] = some y1 := by simpa [c9] using hg 1 _ rfl
      have g2 : DataW.trod enc Try.prog w base spare held n 23 [q2] = some y2 := by simpa [c23] using hg 2 _ rfl
      obtain ⟨a0, e0, _, w0⟩ := DataW.trod_int Try.underlying3 g0
      obtain ⟨a1, e1, _, w1⟩ := DataW.trod_string Try.underlying9 g1
      obtain ⟨a2, e2, _, w2⟩ := DataW.trod_int Try.underlying23 g2
      refine ⟨⟨a0, a1, a2⟩, ?_, w1, w2⟩
      simp at e0 e1 e2
      subst_vars
      rfl
theorem open_events {H : Type} {enc : TypeId × Value → H} {W : World} {base fuel : Nat} {held : Bool} {a : Option Addr} {len cap : Nat} {x : DataW H × List MemPlace} (h : DataW.trod enc Try.prog W base (fun _ => true) held fuel 22 (Value.slice a len cap).cells.toList = some x) :
    ∃ l : List S33, l.length = len ∧ len ≤ cap ∧ (∀ i, (rd_T33 l i).f1.size ≤ maxLen ∧ (Lit.int .u64 (rd_T33 l i).f2).wf = true) ∧ Kd.C k33 W a l.length l := by
  rcases Go.Deep.open_slice Try.underlying22 h with ⟨hcs, _⟩ | ⟨ad, l, c, m, n, D, Pl, hcs, _, hl, hm, hmm, _, hx⟩
  · simp [Value.cells] at hcs
    obtain ⟨rfl, rfl, rfl⟩ := hcs
    exact ⟨[], rfl, Nat.le_refl _, fun _ => ⟨by simp [rd_T33, z33]; decide, by simp [rd_T33, z33]; decide⟩, rfl, by simp, fun h => by simp at h⟩
  · simp [Value.cells] at hcs
    obtain ⟨rfl, rfl, rfl⟩ := hcs
    obtain rfl : m = cap := by simpa using hmm
    have hC : Try.prog.cellsOf 33 = 3 := by kernel_rfl
    have key : ∀ i, ∃ e : S33, i < len → (∃ cs, W.cells? base (ad.add (i * 3)) 3 = some cs ∧ cs = [.int .i64 e.f0, .string e.f1, .int .u64 e.f2]) ∧ e.f1.size ≤ maxLen ∧ (Lit.int .u64 e.f2).wf = true := by
      intro i
      by_cases hi : i < len
      · obtain ⟨cs, h1, h2⟩ := hx i (by omega)
        rw [hC] at h1
        obtain ⟨_, hlen, _⟩ := World.cells?_some h1
        obtain ⟨e, he, w1, w2⟩ := open_one hlen h2
        exact ⟨e, fun _ => ⟨⟨cs, h1, he⟩, w1, w2⟩⟩
      · exact ⟨z33, fun h => absurd h hi⟩
    let f : Nat → S33 := fun i => Classical.choose (key i)
    have hf : ∀ i, i < len → (∃ cs, W.cells? base (ad.add (i * 3)) 3 = some cs ∧ cs = [.int .i64 (f i).f0, .string (f i).f1, .int .u64 (f i).f2]) ∧ (f i).f1.size ≤ maxLen ∧ (Lit.int .u64 (f i).f2).wf = true := fun i => Classical.choose_spec (key i)
    refine ⟨(List.range len).map f, by simp, hl, fun i => ?_, rfl, by simp [maxLen] at hm ⊢; omega, fun _ => ⟨ad, rfl, fun j p hj => ?_⟩⟩
    · by_cases hi : i.toNat < len
      · have e : rd_T33 ((List.range len).map f) i = f i.toNat := by simp [rd_T33, List.getD_eq_getElem?_getD, hi]
        rw [e]; exact (hf _ hi).2
      · have e : rd_T33 ((List.range len).map f) i = z33 := by simp [rd_T33, List.getD_eq_getElem?_getD, hi]
        rw [e]; exact ⟨by decide, by decide⟩
    · rw [List.getElem?_map] at hj
      obtain ⟨r, hr, rfl⟩ := Option.map_eq_some_iff.1 hj
      obtain ⟨hjl, he⟩ := List.getElem?_eq_some_iff.1 hr
      rw [List.length_range] at hjl
      rw [List.getElem_range] at he
      subst he
      obtain ⟨⟨cs, h1, h2⟩, _⟩ := hf j hjl
      obtain ⟨_, hlen, hcell⟩ := World.cells?_some h1
      refine ⟨cs, hlen, by rw [h2]; exact k33_mk W (f j), fun i u hu => ?_⟩
      have hi : i < 3 := by
        have := (List.getElem?_eq_some_iff.1 hu).1
        omega
      rw [← hu, ← hcell i hi, Go.Addr.add_add]
      rfl
end Go.Proofs.Ytkomjplajfjpkaa.Ext
