/- A row of events that came in, opened. -/
import Derived.Test.YtjflbjlkcifpdaaDoorXax0
import Derived.Deep.Slices
namespace Go.Proofs.YtjflbjlkcifpdaaDoor.Ext
open Go.RowKit Go.Proofs.YtjflbjlkcifpdaaDoor.Xa Go.Proofs.YtjflbjlkcifpdaaDoorW.PrintWords Go.Proofs.YtjflbjlkcifpdaaDoorW.PrintLast
set_option linter.unusedVariables false
theorem open_one {H : Type} {enc : TypeId × Value → H} {w : World} {base fuel : Nat} {spare : Nat → Bool} {held : Bool} {cs : List Value} {x : DataW H × List MemPlace} (hlen : cs.length = 10) (h : DataW.trod enc Tryd.prog w base spare held fuel 31 cs = some x) :
    ∃ e : S31, cs = [.int .i64 e.f0, .int .u64 e.f1, .int .u64 e.f2, .string e.f3, .string e.f4, .string e.f5, .string e.f6, .int .i64 e.f7, .int .i64 e.f8, .int .i64 e.f9] ∧ (Lit.int .u64 e.f1).wf = true ∧ (Lit.int .u64 e.f2).wf = true := by
  have c3 : Tryd.prog.cellsOf 3 = 1 := by kernel_rfl
  have c9 : Tryd.prog.cellsOf 9 = 1 := by kernel_rfl
  have c22 : Tryd.prog.cellsOf 29 = 1 := by kernel_rfl
  match cs, hlen with
  | [q0, q1, q2, q3, q4, q5, q6, q7, q8, q9], _ =>
    obtain ⟨xs, n, _, hx, _, hlen, hg⟩ := DataW.trod_struct Tryd.underlying31 h
    match xs, hlen with
    | [y0, y1, y2, y3, y4, y5, y6, y7, y8, y9], _ =>
      have g0 : DataW.trod enc Tryd.prog w base spare held n 3 [q0] = some y0 := by simpa [c3] using hg 0 _ rfl
      have g1 : DataW.trod enc Tryd.prog w base spare held n 29 [q1] = some y1 := by simpa [c22] using hg 1 _ rfl
      have g2 : DataW.trod enc Tryd.prog w base spare held n 29 [q2] = some y2 := by simpa [c22] using hg 2 _ rfl
      have g3 : DataW.trod enc Tryd.prog w base spare held n 9 [q3] = some y3 := by simpa [c9] using hg 3 _ rfl
      have g4 : DataW.trod enc Tryd.prog w base spare held n 9 [q4] = some y4 := by simpa [c9] using hg 4 _ rfl
      have g5 : DataW.trod enc Tryd.prog w base spare held n 9 [q5] = some y5 := by simpa [c9] using hg 5 _ rfl
      have g6 : DataW.trod enc Tryd.prog w base spare held n 9 [q6] = some y6 := by simpa [c9] using hg 6 _ rfl
      have g7 : DataW.trod enc Tryd.prog w base spare held n 3 [q7] = some y7 := by simpa [c3] using hg 7 _ rfl
      have g8 : DataW.trod enc Tryd.prog w base spare held n 3 [q8] = some y8 := by simpa [c3] using hg 8 _ rfl
      have g9 : DataW.trod enc Tryd.prog w base spare held n 3 [q9] = some y9 := by simpa [c3] using hg 9 _ rfl
      obtain ⟨a0, e0, _, w0⟩ := DataW.trod_int Tryd.underlying3 g0
      obtain ⟨a1, e1, _, w1⟩ := DataW.trod_int Tryd.underlying29 g1
      obtain ⟨a2, e2, _, w2⟩ := DataW.trod_int Tryd.underlying29 g2
      obtain ⟨a3, e3, _, w3⟩ := DataW.trod_string Tryd.underlying9 g3
      obtain ⟨a4, e4, _, w4⟩ := DataW.trod_string Tryd.underlying9 g4
      obtain ⟨a5, e5, _, w5⟩ := DataW.trod_string Tryd.underlying9 g5
      obtain ⟨a6, e6, _, w6⟩ := DataW.trod_string Tryd.underlying9 g6
      obtain ⟨a7, e7, _, w7⟩ := DataW.trod_int Tryd.underlying3 g7
      obtain ⟨a8, e8, _, w8⟩ := DataW.trod_int Tryd.underlying3 g8
      obtain ⟨a9, e9, _, w9⟩ := DataW.trod_int Tryd.underlying3 g9
      refine ⟨⟨a0, a1, a2, a3, a4, a5, a6, a7, a8, a9⟩, ?_, w1, w2⟩
      simp at e0 e1 e2 e3 e4 e5 e6 e7 e8 e9
      subst_vars
      rfl
theorem open_events {H : Type} {enc : TypeId × Value → H} {W : World} {base fuel : Nat} {held : Bool} {a : Option Addr} {len cap : Nat} {x : DataW H × List MemPlace} (h : DataW.trod enc Tryd.prog W base (fun _ => true) held fuel 22 (Value.slice a len cap).cells.toList = some x) :
    ∃ l : List S31, l.length = len ∧ len ≤ cap ∧ (∀ i, (Lit.int .u64 (rd_T31 l i).f1).wf = true ∧ (Lit.int .u64 (rd_T31 l i).f2).wf = true) ∧ Kd.C k31 W a l.length l := by
  rcases Go.Deep.open_slice Tryd.underlying22 h with ⟨hcs, _⟩ | ⟨ad, l, c, m, n, D, Pl, hcs, _, hl, hm, hmm, _, hx⟩
  · simp [Value.cells] at hcs
    obtain ⟨rfl, rfl, rfl⟩ := hcs
    exact ⟨[], rfl, Nat.le_refl _, fun _ => ⟨by simp [rd_T31, z31]; decide, by simp [rd_T31, z31]; decide⟩, rfl, by simp, fun h => by simp at h⟩
  · simp [Value.cells] at hcs
    obtain ⟨rfl, rfl, rfl⟩ := hcs
    obtain rfl : m = cap := by simpa using hmm
    have hC : Tryd.prog.cellsOf 31 = 10 := by kernel_rfl
    have key : ∀ i, ∃ e : S31, i < len → (∃ cs, W.cells? base (ad.add (i * 10)) 10 = some cs ∧ cs = [.int .i64 e.f0, .int .u64 e.f1, .int .u64 e.f2, .string e.f3, .string e.f4, .string e.f5, .string e.f6, .int .i64 e.f7, .int .i64 e.f8, .int .i64 e.f9]) ∧ (Lit.int .u64 e.f1).wf = true ∧ (Lit.int .u64 e.f2).wf = true := by
      intro i
      by_cases hi : i < len
      · obtain ⟨cs, h1, h2⟩ := hx i (by omega)
        rw [hC] at h1
        obtain ⟨_, hlen, _⟩ := World.cells?_some h1
        obtain ⟨e, he, w1, w2⟩ := open_one hlen h2
        exact ⟨e, fun _ => ⟨⟨cs, h1, he⟩, w1, w2⟩⟩
      · exact ⟨z31, fun h => absurd h hi⟩
    let f : Nat → S31 := fun i => Classical.choose (key i)
    have hf : ∀ i, i < len → (∃ cs, W.cells? base (ad.add (i * 10)) 10 = some cs ∧ cs = [.int .i64 (f i).f0, .int .u64 (f i).f1, .int .u64 (f i).f2, .string (f i).f3, .string (f i).f4, .string (f i).f5, .string (f i).f6, .int .i64 (f i).f7, .int .i64 (f i).f8, .int .i64 (f i).f9]) ∧ (Lit.int .u64 (f i).f1).wf = true ∧ (Lit.int .u64 (f i).f2).wf = true := fun i => Classical.choose_spec (key i)
    refine ⟨(List.range len).map f, by simp, hl, fun i => ?_, rfl, by simp [maxLen] at hm ⊢; omega, fun _ => ⟨ad, rfl, fun j p hj => ?_⟩⟩
    · by_cases hi : i.toNat < len
      · have e : rd_T31 ((List.range len).map f) i = f i.toNat := by simp [rd_T31, List.getD_eq_getElem?_getD, hi]
        rw [e]; exact (hf _ hi).2
      · have e : rd_T31 ((List.range len).map f) i = z31 := by simp [rd_T31, List.getD_eq_getElem?_getD, hi]
        rw [e]; exact ⟨by decide, by decide⟩
    · rw [List.getElem?_map] at hj
      obtain ⟨r, hr, rfl⟩ := Option.map_eq_some_iff.1 hj
      obtain ⟨hjl, he⟩ := List.getElem?_eq_some_iff.1 hr
      rw [List.length_range] at hjl
      rw [List.getElem_range] at he
      subst he
      obtain ⟨⟨cs, h1, h2⟩, _⟩ := hf j hjl
      obtain ⟨_, hlen, hcell⟩ := World.cells?_some h1
      refine ⟨cs, hlen, by rw [h2]; exact k31_mk W (f j), fun i u hu => ?_⟩
      have hi : i < 10 := by
        have := (List.getElem?_eq_some_iff.1 hu).1
        omega
      rw [← hu, ← hcell i hi, Go.Addr.add_add]
      rfl
end Go.Proofs.YtjflbjlkcifpdaaDoor.Ext
