/- field.Names: by hand. -/
import Derived.Test.YtbldmicpnibnpaaDoorGetF
import Derived.Maps.OwnSet
import Derived.Deep.WholeRow
namespace Go.Proofs.YtbldmicpnibnpaaDoor.Xa
open Go.RowKit Go.Proofs.YtbldmicpnibnpaaDoor.Ext Go.Proofs.YtbldmicpnibnpaaDoorW.PrintWords Go.Proofs.YtbldmicpnibnpaaDoorW.PrintLast Go.Proofs.YtbldmicpnibnpaaDoorW.PrintMore
open Go.Maps Go.Sort
set_option linter.unusedVariables false
set_option linter.unusedSimpArgs false
theorem keyed9 : Keyed Tryd.prog 9 := Go.Maps.string_keyed Tryd.underlying9
/-- All names, in small letters, as the keys of a map. -/
def nkey (e : S31) : Lit := .string (lower e.f0).data.toList
def nD (l : List S31) : DataW Unit := l.foldl (fun D e => D.put (nkey e) (.lit (.bool true))) (.map [])
def leS (x y : List UInt8) : Bool := decide (x ≤ y)
def namesF (l : List S31) : List ByteArray := ((strKeys (nD l)).mergeSort leS).map (fun x => (⟨x.toArray⟩ : ByteArray))
theorem take_next (l : List S31) (I : Int) (h0 : 0 ≤ I) (h1 : I < l.length) : l.take (I + 1).toNat = l.take I.toNat ++ [rd_T31 l I] := by
  have hi : I.toNat < l.length := by omega
  rw [show (I + 1).toNat = I.toNat + 1 by omega, List.take_succ_eq_append_getElem hi]
  simp [rd_T31, List.getD_eq_getElem?_getD, List.getElem?_eq_getElem hi]
theorem nD_next (l : List S31) (I : Int) (h0 : 0 ≤ I) (h1 : I < l.length) : nD (l.take (I + 1).toNat) = (nD (l.take I.toNat)).put (nkey (rd_T31 l I)) (.lit (.bool true)) := by
  rw [take_next l I h0 h1]; simp [nD]
attribute [-go_sem] storeVar
theorem store31 (W : World) (c c' : Array Value) (h : c.size = 2) (h' : c'.size = 2) (h1 : c'.all (·.oneCell') = true) : (storeVar 29 ⟨W.heap.size, 0, none⟩ (.agg c')).run Tryd.prog (W.alloc (.cells c 29)) = .ok () (W.alloc (.cells c' 29)) :=
  run_storeVar_new W 29 c c' (by rw [h']; kernel_rfl) (by rw [h, h']) h1
def field_Names.f (l0 : List (S31)) : Option (List ByteArray) := if l0.length ≤ 1000000 ∧ (∀ e ∈ l0, e.f0.size ≤ 140737488355328) then some (namesF l0) else none
theorem nkey_key (e : S31) : WideAt.IsKeyLit (nkey e) := by simp [WideAt.IsKeyLit, nkey]
theorem nD_from : ∀ (l : List S31) (D : DataW Unit), Go.Maps.Tidy D → Go.Maps.size (l.foldl (fun D e => D.put (nkey e) (.lit (.bool true))) D) ≤ Go.Maps.size D + l.length ∧ Go.Maps.Tidy (l.foldl (fun D e => D.put (nkey e) (.lit (.bool true))) D)
  | [], D, h => ⟨Nat.le_refl _, h⟩
  | e :: l, D, h => by
    obtain ⟨h1, h2⟩ := nD_from l (D.put (nkey e) (.lit (.bool true))) (h.put (nkey_key e) _)
    refine ⟨?_, h2⟩
    rw [Go.Maps.size_put h] at h1
    rw [List.foldl_cons, List.length_cons]
    split at h1 <;> omega
theorem nD_size (l : List S31) : Go.Maps.size (nD l) ≤ l.length := by
  have := (nD_from l (.map []) Go.Maps.tidy_empty).1
  rw [show Go.Maps.size (.map [] : DataW Unit) = 0 from rfl] at this
  unfold nD
  omega
theorem World.size_alloc' (w : World) (o : Obj) : (w.alloc o).heap.size = w.heap.size + 1 := by simp
theorem names_row {l : List S31} {w' : World} {base : Nat} {v : Value} {ss : List (List UInt8)} (hS : ss.Perm (strKeys (nD l))) (hrow : w'.ownsRow base 9 1 v ss.length ((ss.mergeSort (fun x y => decide (x ≤ y))).map encStr)) : Kd.R Kd.string 9 w' base (fun _ => True) v (namesF l) := by
  have e1 : ss.mergeSort (fun x y => decide (x ≤ y)) = (strKeys (nD l)).mergeSort leS := mergeSort_of_perm hS
  have e2 : ss.length = (namesF l).length := by unfold namesF; rw [List.length_map, List.length_mergeSort]; exact hS.length_eq
  rw [e1, e2] at hrow
  refine Kd.R_of_own (enc := Value.string) (h1 := fun _ => rfl) ?_ (fun _ _ => trivial)
  have e3 : encs Value.string (namesF l) = ((strKeys (nD l)).mergeSort leS).map encStr := by unfold namesF encs; rw [List.map_map]; rfl
  rw [e3]
  exact hrow
set_option maxHeartbeats 4000000 in
theorem names_calls (A0 : Option Addr) (c0 : Nat) (l0 : List (S31)) (w : World) (hr0 : Kd.C k31 w A0 l0.length l0) (hn : l0.length ≤ 1000000) (hsz : ∀ i, (rd_T31 l0 i).f0.size ≤ 140737488355328) :
    Calls Tryd.prog 18 #[.slice A0 l0.length c0] w fun e w' => ∃ v0_, e = .returned v0_ ∧ Kd.R Kd.string 9 w' w.heap.size (fun _ => True) v0_ (namesF l0) ∧ Below w.heap.size w w' := by
  have HR := Aside0.mk hr0
  have HSZ := Aside0.mk hsz
  obtain ⟨n, hnl⟩ : ∃ n : Int, (l0.length : Int) = n := ⟨_, rfl⟩
  have HN := Aside0.mk hnl
  have hn0 : 0 ≤ n := by omega
  have hn1 : n ≤ 1000000 := by omega
  clear hr0 hsz
  have hmm := @run_makeMap Tryd.prog
  have hown := World.ownsMap_made (H := Unit) w Tryd.prog 9 (plainElem Tryd.prog 4)
  have hbl := below_alloc (Below.refl w.heap.size w) (Obj.map #[] 0)
  obtain ⟨b, hb⟩ : ∃ b, w.heap.size = b := ⟨_, rfl⟩
  obtain ⟨W1, hW1⟩ : ∃ W, w.alloc (.map #[] 0) = W := ⟨_, rfl⟩
  have hmk := run_makeMap (P := Tryd.prog) 62 w
  rw [hb] at hown hmk
  rw [hW1] at hown hbl hmk
  have HOW := Aside0.mk hown
  have HBL := Aside0.mk hbl
  have HBB := Aside0.mk hb
  clear hmm hown hbl hW1 hb
  go_enter Tryd.func18, Tryd.ntmps18
  go_wp2_with (fail)
  go_loopg [9] n.toNat (fun m v9 W => ∃ I : Int, v9 = .int .i64 I ∧ 0 ≤ I ∧ I + m = n ∧ Aside0 (W.ownsMap Tryd.prog 9 (plainElem Tryd.prog 4) b I.toNat (nD (l0.take I.toNat)) ∧ Below w.heap.size w W))
  case atStart => exact ⟨0, rfl, Int.le_refl _, by omega, ⟨HOW.out, HBL.out⟩⟩
  case round =>
    obtain ⟨I, rfl, hI0, hIm, HX⟩ := hrel
    by_cases hi : I < n
    · obtain ⟨ad, hA, e0, e1⟩ := at_T31 (Kd.C_below HR.out HX.out.2) I hI0 (by have := HN.out; omega)
      subst hA
      obtain ⟨F, hF⟩ : ∃ F, (rd_T31 l0 I).f0 = F := ⟨_, rfl⟩
      obtain ⟨G, hG⟩ : ∃ F, (rd_T31 l0 I).f1 = F := ⟨_, rfl⟩
      have hfs := HSZ.out I
      have HND := Aside0.mk (nD_next l0 I hI0 (by have := HN.out; omega))
      rw [hF] at e0 hfs
      rw [hG] at e1
      have HF := Aside0.mk hF
      clear hF hG
      obtain ⟨q, hq⟩ : ∃ q, wr.heap.size = q := ⟨_, rfl⟩
      obtain ⟨Wz, hWz⟩ : ∃ W, wr.alloc (.cells #[.string ⟨#[]⟩, .string ⟨#[]⟩] 29) = W := ⟨_, rfl⟩
      obtain ⟨W5, hW5⟩ : ∃ W, wr.alloc (.cells #[.string F, .string G] 29) = W := ⟨_, rfl⟩
      have hst := store31 wr #[.string ⟨#[]⟩, .string ⟨#[]⟩] #[.string F, .string G] rfl rfl (by kernel_rfl)
      have hb5 : Below wr.heap.size wr W5 := by rw [← hW5]; exact below_alloc (Below.refl _ _) _
      have hq5 : W5.heap[q]? = some (.cells #[.string F, .string G] 29 (0, 0)) := by rw [← hW5, ← hq]; exact blk_new _ _
      have ho5 : W5.ownsMap Tryd.prog 9 (plainElem Tryd.prog 4) b I.toNat (nD (l0.take I.toNat)) := HX.out.1.kept (grown_of_below hb5 none) (by simp)
      rw [hq, hWz, hW5] at hst
      have k0 : W5.cell? ⟨q, 0, none⟩ = some (.string F) := blk_cell hq5 0
      have HB5 := Aside0.mk (below_then HX.out.2 HX.out.2.size hb5)
      have HO5 := Aside0.mk ho5
      have HFS := Aside0.mk hfs
      clear hb5 hq5 ho5 hW5 HX hfs
      go_wp2_with (fail)
      refine (lower_calls F W5 (by have := HFS.out; omega)).mono ?_
      rintro e w3 ⟨rfl, hb3⟩
      have ho3 : w3.ownsMap Tryd.prog 9 (plainElem Tryd.prog 4) b I.toNat (nD (l0.take I.toNat)) := HO5.out.kept (grown_of_below hb3 none) (by simp)
      obtain ⟨w4, hrun, ho4, hg4⟩ := ho3.update keyed9 Tryd.underlying62 (by simp only [maxLen]; omega) (Go.WideMaps.keyOf_string_mk Tryd.underlying9 (show (lower F).size ≤ maxLen by rw [lower_size]; have := HFS.out; simp only [maxLen]; omega)) (plainElem_bool Tryd.underlying4 true)
      have HO4 := Aside0.mk ho4
      have HB4 : Aside0 (Below w.heap.size w w4) := ⟨(below_then HB5.out HB5.out.size hb3).grown hg4 (below_then HB5.out HB5.out.size hb3).size (fun k hk => by injection hk with hk; have := HBB.out; omega)⟩
      obtain ⟨lF, hlF⟩ : ∃ x, lower F = x := ⟨_, rfl⟩
      have HLF := Aside0.mk hlF
      rw [hlF] at hrun ⊢
      clear ho3 ho4 hg4 hb3 hlF
      go_wp2
      go_roundg (gk - 1)
      case measure => omega
      case rel => exact ⟨I + 1, by go_num, by omega, by omega, ⟨by rw [HND.out, show (I + 1).toNat = I.toNat + 1 by omega]; unfold nkey; rw [HF.out]; exact HO4.out, HB4.out⟩⟩
    · have hIn : l0.take I.toNat = l0 := List.take_of_length_le (by have := HN.out; omega)
      have ho := HX.out.1
      rw [hIn] at ho
      have HO := Aside0.mk ho
      have HB := Aside0.mk HX.out.2
      clear hIn ho HX
      go_wp2_with (fail)
      refine (callsIn_wide.1 (Tryd.maps_Keys_32 (some b) wr)).mono ?_
      rintro e w3 ⟨rfl, rfl⟩
      have hsz0 := nD_size l0
      go_wp2_with (fail)
      refine (callsIn_wide.1 (Tryd.slices_Sorted_keys_31_32 b _ (nD l0) _ wr HO.out (by simp only [maxLen]; have := HN.out; omega) (by have := HN.out; omega))).mono ?_
      rintro e w4 ⟨v, ss, rfl, hS, hrow, hnil, hb4⟩
      have HFIN := Aside0.mk (names_row hS hrow)
      have HB4 := Aside0.mk (below_then (below_alloc HB.out _) (by simp; have := HB.out.size; omega) hb4)
      clear hS hrow hnil hb4 hsz0
      go_wp2
      go_ret
      exact ⟨_, rfl, Kd.R_lower (base' := w.heap.size) HFIN.out (by rw [World.size_alloc']; have := HB.out.size; omega), HB4.out⟩
theorem field_Names.calls (A0 : Option Addr) (c0 : Nat) (l0 : List (S31)) (r : List ByteArray) (w : World) (hr0 : Kd.C k31 w A0 l0.length l0) (hc0 : l0.length ≤ c0) (h : field_Names.f l0 = some r) :
    Calls Tryd.prog 18 #[.slice A0 l0.length c0] w fun e w' => ∃ v0_ : Value, e = .returned (v0_) ∧ Kd.R Kd.string 9 w' w.heap.size (fun _ => True) v0_ r ∧ Below w.heap.size w w' := by
  unfold field_Names.f at h
  split at h
  · rename_i hc
    obtain rfl := Option.some.inj h
    refine names_calls A0 c0 l0 w hr0 hc.1 (fun i => ?_)
    by_cases hi : i.toNat < l0.length
    · have e1 : rd_T31 l0 i = l0[i.toNat] := by simp [rd_T31, List.getD_eq_getElem?_getD, List.getElem?_eq_getElem hi]
      rw [e1]; exact hc.2 _ (List.getElem_mem hi)
    · have e1 : rd_T31 l0 i = z31 := by simp [rd_T31, List.getD_eq_getElem?_getD, List.getElem?_eq_none (show l0.length ≤ i.toNat by omega)]
      rw [e1]; decide
  · cases h
end Go.Proofs.YtbldmicpnibnpaaDoor.Xa
