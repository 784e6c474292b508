/- A row of fields that came in, opened; what the bound gives. -/
import Derived.Test.YtbldmicpnibnpaaDoorFie
import Derived.Test.YtbldmicpnibnpaaDoorRows
import Derived.Deep.Slices
namespace Go.Proofs.YtbldmicpnibnpaaDoor.Ext
open Go.RowKit Go.Proofs.YtbldmicpnibnpaaDoor.Xa Go.Proofs.YtbldmicpnibnpaaDoorW.PrintWords Go.Proofs.YtbldmicpnibnpaaDoorW.PrintLast
set_option linter.unusedVariables false
set_option maxRecDepth 100000 in
theorem open_one {H : Type} {enc : TypeId × Value → H} {w : World} {base fuel : Nat} {spare : Nat → Bool} {held : Bool} {cs : List Value} {x : DataW H × List MemPlace} (hlen : cs.length = 2) (h : DataW.trod enc Tryd.prog w base spare held fuel 29 cs = some x) :
    ∃ e : S31, cs = [.string e.f0, .string e.f1] ∧ x.1 = .agg [.lit (.string e.f0.data.toList), .lit (.string e.f1.data.toList)] := by
  have c9 : Tryd.prog.cellsOf 9 = 1 := by kernel_rfl
  match cs, hlen with
  | [q0, q1], _ =>
    obtain ⟨xs, n, _, hx, _, hlen, hg⟩ := DataW.trod_struct Tryd.underlying29 h
    match xs, hlen with
    | [y0, y1], _ =>
      have g0 : DataW.trod enc Tryd.prog w base spare held n 9 [q0] = some y0 := by simpa [c9] using hg 0 _ rfl
      have g1 : DataW.trod enc Tryd.prog w base spare held n 9 [q1] = some y1 := by simpa [c9] using hg 1 _ rfl
      obtain ⟨a0, e0, d0, w0⟩ := DataW.trod_string Tryd.underlying9 g0
      obtain ⟨a1, e1, d1, w1⟩ := DataW.trod_string Tryd.underlying9 g1
      refine ⟨⟨a0, a1⟩, ?_, ?_⟩
      · simp at e0 e1
        subst_vars
        rfl
      · rw [hx, d0, d1]
        rfl
set_option maxRecDepth 100000 in
theorem bulk_map {H : Type} (D : Nat → DataW H) (f : Nat → S31) : ∀ n, (∀ i, i < n → D i = .agg [.lit (.string (f i).f0.data.toList), .lit (.string (f i).f1.data.toList)]) → Pure.tot ((List.range n).map f) ≤ Rows.uptoBulkAll ((List.range n).map D) := by
  have app : ∀ l r : List (DataW H), Rows.uptoBulkAll (l ++ r) = Rows.uptoBulkAll l + Rows.uptoBulkAll r := by
    intro l r
    induction l with
    | nil => simp [Rows.uptoBulkAll]
    | cons x l ih => simp only [List.cons_append, Rows.uptoBulkAll, ih]; omega
  intro n
  induction n with
  | zero => intro _; simp [Pure.tot, Rows.uptoBulkAll]
  | succ n ih =>
    intro h
    have h1 := ih fun i hi => h i (by omega)
    rw [List.range_succ, List.map_append, List.map_append, Pure.tot_append, app]
    have h2 := h n (by omega)
    have e : ∀ b : ByteArray, b.data.toList.length = b.size := fun b => by rw [Array.length_toList]; rfl
    have h3 : Pure.tot ([n].map f) ≤ Rows.uptoBulkAll ([n].map D) := by
      simp only [List.map_cons, List.map_nil, Rows.uptoBulkAll, h2, Rows.uptoBulk, Pure.tot, List.sum_cons, List.sum_nil, e]
      omega
    omega
set_option maxRecDepth 100000 in
theorem open_fields {H : Type} {enc : TypeId × Value → H} {W : World} {base fuel : Nat} {held : Bool} {a : Option Addr} {len cap : Nat} {x : DataW H × List MemPlace} (h : DataW.trod enc Tryd.prog W base (fun _ => true) held fuel 22 (Value.slice a len cap).cells.toList = some x) :
    ∃ l : List S31, l.length = len ∧ len ≤ cap ∧ Pure.tot l ≤ Rows.uptoBulk x.1 ∧ Kd.C k31 W a l.length l := by
  rcases Go.Deep.open_slice Tryd.underlying22 h with ⟨hcs, _⟩ | ⟨ad, l, c, m, n, D, Pl, hcs, _, hl, hm, hmm, hxx, hx⟩
  · simp [Value.cells] at hcs
    obtain ⟨rfl, rfl, rfl⟩ := hcs
    exact ⟨[], rfl, Nat.le_refl _, by simp [Pure.tot], rfl, by simp, fun h => by simp at h⟩
  · simp [Value.cells] at hcs
    obtain ⟨rfl, rfl, rfl⟩ := hcs
    obtain rfl : m = cap := by simpa using hmm
    have hC : Tryd.prog.cellsOf 29 = 2 := by kernel_rfl
    have key : ∀ i, ∃ e : S31, i < len → (∃ cs, W.cells? base (ad.add (i * 2)) 2 = some cs ∧ cs = [.string e.f0, .string e.f1]) ∧ D i = .agg [.lit (.string e.f0.data.toList), .lit (.string e.f1.data.toList)] := by
      intro i
      by_cases hi : i < len
      · obtain ⟨cs, h1, h2⟩ := hx i (by omega)
        rw [hC] at h1
        obtain ⟨_, hlen, _⟩ := World.cells?_some h1
        obtain ⟨e, he, hd⟩ := open_one hlen h2
        exact ⟨e, fun _ => ⟨⟨cs, h1, he⟩, hd⟩⟩
      · exact ⟨z31, fun h => absurd h hi⟩
    let f : Nat → S31 := fun i => Classical.choose (key i)
    have hf : ∀ i, i < len → (∃ cs, W.cells? base (ad.add (i * 2)) 2 = some cs ∧ cs = [.string (f i).f0, .string (f i).f1]) ∧ D i = .agg [.lit (.string (f i).f0.data.toList), .lit (.string (f i).f1.data.toList)] := fun i => Classical.choose_spec (key i)
    refine ⟨(List.range len).map f, by simp, hl, ?_, rfl, by simp [maxLen] at hm ⊢; omega, fun _ => ⟨ad, rfl, fun j p hj => ?_⟩⟩
    · have h1 := bulk_map D f len fun i hi => (hf i hi).2
      rw [hxx]
      simp only [Rows.uptoBulk]
      omega
    · rw [List.getElem?_map] at hj
      obtain ⟨r, hr, rfl⟩ := Option.map_eq_some_iff.1 hj
      obtain ⟨hjl, he⟩ := List.getElem?_eq_some_iff.1 hr
      rw [List.length_range] at hjl
      rw [List.getElem_range] at he
      subst he
      obtain ⟨⟨cs, h1, h2⟩, _⟩ := hf j hjl
      obtain ⟨_, hlen, hcell⟩ := World.cells?_some h1
      refine ⟨cs, hlen, by rw [h2]; exact k31_mk W (f j), fun i u hu => ?_⟩
      have hi : i < 2 := by
        have := (List.getElem?_eq_some_iff.1 hu).1
        omega
      rw [← hu, ← hcell i hi, Go.Addr.add_add]
      rfl
end Go.Proofs.YtbldmicpnibnpaaDoor.Ext
