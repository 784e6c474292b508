/- token.mapped and token.Lower: by hand. -/
import Derived.Test.YtbldmicpnibnpaaDoorLib
import Derived.Lib.Hide
import Derived.Handy
import Derived.Test.YtbldmicpnibnpaaDoorWWords
import Derived.Test.YtbldmicpnibnpaaDoorWLast
import Derived.Test.YtbldmicpnibnpaaDoorWMore
namespace Go.Proofs.YtbldmicpnibnpaaDoor.Ext
open Go.RowKit Go.Proofs.YtbldmicpnibnpaaDoorW.PrintWords Go.Proofs.YtbldmicpnibnpaaDoorW.PrintLast Go.Proofs.YtbldmicpnibnpaaDoorW.PrintMore
set_option linter.unusedVariables false
set_option linter.unusedSimpArgs false
def lowB (c : UInt8) : UInt8 := if 65 ≤ c ∧ c ≤ 90 then c + 32 else c
def lower (s : ByteArray) : ByteArray := ⟨s.data.map lowB⟩
theorem lower_size (s : ByteArray) : (lower s).size = s.size := by show (s.data.map lowB).size = s.data.size; rw [Array.size_map]
def larges : ByteArray := ⟨#[65, 66, 67, 68, 69, 70, 71, 72, 73, 74, 75, 76, 77, 78, 79, 80, 81, 82, 83, 84, 85, 86, 87, 88, 89, 90]⟩
def smalls : ByteArray := ⟨#[97, 98, 99, 100, 101, 102, 103, 104, 105, 106, 107, 108, 109, 110, 111, 112, 113, 114, 115, 116, 117, 118, 119, 120, 121, 122]⟩
theorem low_all : ∀ c : Fin 256, Lib.indexByte larges.data.toList (UInt8.ofNat c.val) = if 65 ≤ c.val ∧ c.val ≤ 90 then (c.val : Int) - 65 else -1 := by decide +kernel
theorem small_all : ∀ k : Fin 26, (smalls.data.toList.getD k.val 0).toNat = k.val + 97 := by decide +kernel
/-- The row while it is turned: so many bytes are small already. -/
structure Lw (W : World) (g n i : Nat) (s : List UInt8) (C : Array Value) : Prop where
  blk : W.heap[g]? = some (.cells C 5 (C.size, C.size + 1))
  len : n ≤ C.size
  cells : ∀ j, j < n → C[j]? = some (.int .u8 ((if j < i then lowB (s.getD j 0) else s.getD j 0).toNat : Int))
section
variable {W : World} {g n i : Nat} {s : List UInt8} {C : Array Value}
theorem Lw.cell (h : Lw W g n i s C) (j : Nat) (hj : j < n) : W.cell? ⟨g, j, none⟩ = some (.int .u8 ((if j < i then lowB (s.getD j 0) else s.getD j 0).toNat : Int)) := by
  rw [cell_of_row _ _ _ _ _ _ h.blk]; exact h.cells j hj
theorem Lw.frozen (h : Lw W g n i s C) (j : Nat) (hj : j < n) : W.frozen? ⟨g, j, none⟩ = false := by
  have hl := h.len
  have hlt : j < C.size := by omega
  simp [World.frozen?, h.blk]
  omega
theorem Lw.same (h : Lw W g n i s C) (hi : lowB (s.getD i 0) = s.getD i 0) : Lw W g n (i + 1) s C := by
  refine ⟨h.blk, h.len, fun j hj => ?_⟩
  rw [h.cells j hj]
  by_cases h1 : j < i
  · rw [if_pos h1, if_pos (by omega)]
  · by_cases h2 : j = i
    · subst h2; rw [if_neg h1, if_pos (by omega), hi]
    · rw [if_neg h1, if_neg (by omega)]
theorem Lw.put (h : Lw W g n i s C) (hi : i < n) : Lw (W.setCell ⟨g, i, none⟩ (.int .u8 ((lowB (s.getD i 0)).toNat : Int))) g n (i + 1) s (C.setIfInBounds i (.int .u8 ((lowB (s.getD i 0)).toNat : Int))) := by
  have hl := h.len
  refine ⟨?_, by simpa using h.len, fun j hj => ?_⟩
  · simp only [World.setCell]
    rw [Array.getElem?_modify, if_pos rfl, h.blk]
    simp
  · rw [Array.getElem?_setIfInBounds]
    by_cases h2 : i = j
    · subst h2
      rw [if_pos rfl, if_pos (by omega), if_pos (by omega)]
    · rw [if_neg h2, h.cells j hj]
      by_cases h1 : j < i
      · rw [if_pos h1, if_pos (by omega)]
      · rw [if_neg h1, if_neg (by omega)]
end
theorem low_start (w : World) (s : ByteArray) : Lw (Lib.bytesWorld w 5 s) w.heap.size s.size 0 s.data.toList (Lib.bytesCells w 5 s) := by
  have hs : s.data.toList.length = s.size := by rw [Array.length_toList]; rfl
  refine ⟨Lib.bytesWorld_at_new w 5 s, by unfold Lib.bytesCells; rw [Array.size_append, Array.size_map, show s.data.size = s.size from rfl]; omega, fun j hj => ?_⟩
  have h1 : j < s.data.size := hj
  rw [if_neg (by omega)]
  unfold Lib.bytesCells
  rw [Array.getElem?_append_left (by simpa using h1)]
  simp only [Array.getElem?_map, List.getD_eq_getElem?_getD, Array.getElem?_toList]
  rw [Array.getElem?_eq_getElem h1]
  rfl
theorem Lw.string {W : World} {g : Nat} {s : ByteArray} {C : Array Value} (h : Lw W g s.size s.size s.data.toList C) : ∀ j, j < s.size → W.cell? ⟨g, j, none⟩ = some (.int .u8 ((lowB (s.data.toList.getD j 0)).toNat : Int)) := fun j hj => by
  rw [h.cell j hj, if_pos hj]
theorem lower_nums (s : ByteArray) : strOfNums ((s.data.toList.map lowB).map (fun b => (b.toNat : Int))) = lower s := by
  apply ByteArray.ext
  unfold strOfNums lower
  rw [List.map_map, List.map_map, show (((fun n : Int => UInt8.ofNat n.toNat) ∘ (fun b : UInt8 => (b.toNat : Int))) ∘ lowB) = lowB by funext b; simp]
  apply Array.toList_inj.1
  simp
theorem lower_reads {W : World} {g : Nat} {s : ByteArray} {C : Array Value} (h : Lw W g s.size s.size s.data.toList C) (hs : s.size ≤ 9223372036854775807) : Kd.C (Kd.int .u8) W (some ⟨g, 0, none⟩) ((s.data.toList.map lowB).map (fun b => (b.toNat : Int))).length ((s.data.toList.map lowB).map (fun b => (b.toNat : Int))) := by
  have hl : ((s.data.toList.map lowB).map (fun b => (b.toNat : Int))).length = s.size := by rw [List.length_map, List.length_map, Array.length_toList]; rfl
  refine Kd.C_of_reads (d := (0 : Int)) (h1 := fun _ => rfl) ⟨rfl, by omega, fun hn => ⟨_, rfl, fun j hj => ?_⟩⟩
  rw [hl] at hj
  have h1 : j < s.data.size := hj
  rw [add_plain, h.string j hj]
  simp only [List.getD_eq_getElem?_getD, List.getElem?_map, Array.getElem?_toList]
  rw [Array.getElem?_eq_getElem h1]
  rfl
set_option maxRecDepth 100000 in
theorem idx_small (k : Fin 26) (W : World) : (Instr.index 9 (.string smalls) (.int .i64 (k.val : Int))).run Tryd.prog W = .ok (.int .u8 ((k.val : Int) + 97)) W := by
  revert k
  intro ⟨k, hk⟩
  have : k = 0 ∨ k = 1 ∨ k = 2 ∨ k = 3 ∨ k = 4 ∨ k = 5 ∨ k = 6 ∨ k = 7 ∨ k = 8 ∨ k = 9 ∨ k = 10 ∨ k = 11 ∨ k = 12 ∨ k = 13 ∨ k = 14 ∨ k = 15 ∨ k = 16 ∨ k = 17 ∨ k = 18 ∨ k = 19 ∨ k = 20 ∨ k = 21 ∨ k = 22 ∨ k = 23 ∨ k = 24 ∨ k = 25 := by omega
  rcases this with rfl | rfl | rfl | rfl | rfl | rfl | rfl | rfl | rfl | rfl | rfl | rfl | rfl | rfl | rfl | rfl | rfl | rfl | rfl | rfl | rfl | rfl | rfl | rfl | rfl | rfl <;> rfl
theorem index_large (c : UInt8) : Lib.indexByte larges.data.toList (c.toNat : Int).toNat.toUInt8 = if 65 ≤ c.toNat ∧ c.toNat ≤ 90 then (c.toNat : Int) - 65 else -1 := by
  have h := low_all ⟨c.toNat, c.toNat_lt⟩
  simpa using h
theorem lowB_yes {c : UInt8} (h : 65 ≤ c.toNat ∧ c.toNat ≤ 90) : (lowB c).toNat = c.toNat + 32 := by
  unfold lowB
  have h1 : (65 : UInt8) ≤ c := UInt8.le_iff_toNat_le.2 h.1
  have h2 : c ≤ (90 : UInt8) := UInt8.le_iff_toNat_le.2 h.2
  rw [if_pos ⟨h1, h2⟩, UInt8.toNat_add]
  have : (32 : UInt8).toNat = 32 := rfl
  omega
theorem lowB_no {c : UInt8} (h : ¬ (65 ≤ c.toNat ∧ c.toNat ≤ 90)) : lowB c = c := by
  unfold lowB
  have h' : ¬ ((65 : UInt8) ≤ c ∧ c ≤ 90) := fun hh => h ⟨by have h1 := UInt8.le_iff_toNat_le.1 hh.1; exact h1, by have h1 := UInt8.le_iff_toNat_le.1 hh.2; exact h1⟩
  rw [if_neg h']
set_option maxRecDepth 100000 in
set_option maxHeartbeats 2000000 in
theorem mapped_calls (s : ByteArray) (w : World) (hs : s.size ≤ 9223372036854775807) : Calls Tryd.prog 15 #[.string s, .string larges, .string smalls] w fun e w' => e = .returned (.string (lower s)) ∧ Below w.heap.size w w' := by
  have kb := print_bytes (P := Tryd.prog) 9 42 5 Tryd.underlying9 Tryd.underlying42 Tryd.underlying5 s w
  have H0 := low_start w s
  have hb := bytes_below (Below.refl w.heap.size w) (Nat.le_refl _) 5 s
  obtain ⟨W1, hW1⟩ : ∃ W, Lib.bytesWorld w 5 s = W := ⟨_, rfl⟩
  obtain ⟨g, hg⟩ : ∃ g, w.heap.size = g := ⟨_, rfl⟩
  obtain ⟨cp, hcp⟩ : ∃ g, grownCap w s.size 0 5 = g := ⟨_, rfl⟩
  rw [hW1] at H0 kb hb
  rw [hcp] at kb
  have HB := Aside0.mk hb
  rw [hg] at H0 kb
  have HL := Aside0.mk H0
  have HG := Aside0.mk hg
  clear H0 hb hW1 hcp hg
  obtain ⟨n, hn⟩ : ∃ n : Int, (s.size : Int) = n := ⟨_, rfl⟩
  have HN := Aside0.mk hn
  have hn0 : 0 ≤ n := by omega
  have hn1 : n ≤ 9223372036854775807 := by omega
  have HS := Aside0.mk hs
  clear hs
  go_enter Tryd.func15, Tryd.ntmps15
  go_wp2_with (fail)
  go_loopg [15] n.toNat (fun m v15 W => ∃ I : Int, v15 = .int .i64 I ∧ 0 ≤ I ∧ I + m = n ∧ Aside0 ((∃ C, Lw W g s.size I.toNat s.data.toList C) ∧ Below w.heap.size w W))
  case atStart => exact ⟨0, rfl, Int.le_refl _, by omega, ⟨⟨_, HL.out⟩, HB.out⟩⟩
  case round =>
    obtain ⟨I, rfl, hI0, hIm, HX⟩ := hrel
    clear HL HB
    obtain ⟨C, hC⟩ := HX.out.1
    have HL := Aside0.mk hC
    have HB := Aside0.mk HX.out.2
    clear HX hC
    by_cases hi : I < n
    · have hin : I.toNat < s.size := by have := HN.out; omega
      obtain ⟨c, hc⟩ : ∃ c, s.data.toList.getD I.toNat 0 = c := ⟨_, rfl⟩
      have k0 : wr.cell? ⟨g, I.toNat, none⟩ = some (.int .u8 (c.toNat : Int)) := by rw [HL.out.cell I.toNat hin, if_neg (by omega), hc]
      have fz : wr.frozen? ⟨g, I.toNat, none⟩ = false := HL.out.frozen I.toNat hin
      have HCC := Aside0.mk hc
      have HIN := Aside0.mk hin
      have his := index_large c
      have hcl := c.toNat_lt
      clear hin hc
      obtain ⟨b, hb⟩ : ∃ b : Int, (c.toNat : Int) = b := ⟨_, rfl⟩
      have HBB := Aside0.mk hb
      have hb0 : 0 ≤ b := by omega
      have hb1 : b ≤ 255 := by omega
      rw [hb] at k0 his
      clear hb hcl
      go_wp2_with (fail)
      refine (Tryd.strings_IndexByte larges b wr).mono ?_
      rw [his]
      rintro e w2 ⟨rfl, hw2⟩
      subst w2
      clear his
      by_cases hl : 65 ≤ c.toNat ∧ c.toNat ≤ 90
      · rw [if_pos hl]
        have hk : (Instr.index 9 (.string smalls) (.int .i64 (b - 65))).run Tryd.prog wr = .ok (.int .u8 (b + 32)) wr := by
          have h1 := idx_small ⟨c.toNat - 65, by omega⟩ wr
          have e1 : ((⟨c.toNat - 65, by omega⟩ : Fin 26).val : Int) = b - 65 := by have := HBB.out; simp only; omega
          rw [e1] at h1
          rw [h1]
          congr 2
          omega
        have hb65 : 65 ≤ b := by have := HBB.out; omega
        have HPUT := Aside0.mk (HL.out.put HIN.out)
        rw [HCC.out, lowB_yes hl, show ((c.toNat + 32 : Nat) : Int) = b + 32 by have := HBB.out; omega] at HPUT
        have hk0 : 0 ≤ b - 65 := by omega
        clear hl
        go_wp2
        go_roundg (gk - 1)
        case measure => omega
        case rel => exact ⟨I + 1, by go_num, by omega, by omega, ⟨⟨_, by rw [show (I + 1).toNat = I.toNat + 1 by omega]; exact HPUT.out⟩, HB.out.setCell (by have := HG.out; show w.heap.size ≤ g; omega) _⟩⟩
      · rw [if_neg hl]
        have HSM := Aside0.mk (HL.out.same (by rw [HCC.out]; exact lowB_no hl))
        clear hl
        go_wp2
        go_roundg (gk - 1)
        case measure => omega
        case rel => exact ⟨I + 1, by go_num, by omega, by omega, ⟨⟨_, by rw [show (I + 1).toNat = I.toNat + 1 by omega]; exact HSM.out⟩, HB.out⟩⟩
    · have hIn : I.toNat = s.size := by have := HN.out; omega
      have hL := HL.out
      rw [hIn] at hL
      have hcv := Kd.C_string (P := Tryd.prog) (c := cp) Tryd.underlying42 Tryd.underlying5 Tryd.underlying9 (lower_reads hL HS.out)
      rw [lower_nums, show ((s.data.toList.map lowB).map (fun b => (b.toNat : Int))).length = s.size by rw [List.length_map, List.length_map, Array.length_toList]; rfl] at hcv
      obtain ⟨R, hR⟩ : ∃ R, lower s = R := ⟨_, rfl⟩
      rw [hR] at hcv
      have HR := Aside0.mk hR
      clear hIn hL hR
      go_wp2
      go_ret
      exact ⟨by rw [HR.out]; rfl, HB.out⟩
theorem lower_calls (s : ByteArray) (w : World) (hs : s.size ≤ 9223372036854775807) : Calls Tryd.prog 7 #[.string s] w fun e w' => e = .returned (.string (lower s)) ∧ Below w.heap.size w w' := by
  go_enter Tryd.func7, Tryd.ntmps7
  go_wp2_with (fail)
  refine (mapped_calls s w hs).mono ?_
  rintro e w' ⟨rfl, hb⟩
  go_wp2
  go_ret
  exact ⟨rfl, hb⟩
end Go.Proofs.YtbldmicpnibnpaaDoor.Ext
