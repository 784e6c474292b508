/- What the laws' 'shown' answers: its walk by hand. -/
import Derived.Test.YtojagnoobaleaaaDoorFrU
namespace Go.Proofs.YtojagnoobaleaaaDoor.Ext
open Go.RowKit Go.Proofs.YtojagnoobaleaaaDoor.Xp Go.Proofs.YtojagnoobaleaaaDoorW.PrintWords Go.Proofs.YtojagnoobaleaaaDoorW.PrintLast Go.Proofs.YtojagnoobaleaaaDoorW.PrintMore
set_option linter.unusedVariables false
set_option linter.unusedSimpArgs false
attribute [local go_sem] max2_int min2_int max_two min_two
theorem reads_lit (w : World) (xs : List Int) (fr : Nat × Nat) (h : xs.length ≤ 9223372036854775807) : Kd.C (Kd.int .u8) (w.alloc (.cells (nums .u8 xs).toArray 5 fr)) (some ⟨w.heap.size, 0, none⟩) xs.length xs := by
  refine Kd.C_of_reads (d := (0 : Int)) (h1 := fun _ => rfl) ⟨rfl, h, fun hn => ⟨_, rfl, fun j hj => ?_⟩⟩
  rw [add_plain, cell_of_row _ _ _ _ _ _ (heap_alloc_new w _)]
  simp [nums, List.getElem?_eq_getElem hj, List.getD_eq_getElem?_getD]
theorem str_at {W : World} {A : Option Addr} {xs : List Int} {n : Nat} (h : Kd.C (Kd.int .u8) W A n xs) (c : Nat) : (convert 22 9 (.slice A n c)).run Tryd.prog W = .ok (.string (strOfNums xs)) W :=
  Kd.C_string (P := Tryd.prog) Tryd.underlying22 Tryd.underlying5 Tryd.underlying9 h
abbrev bodS : List (List Int) := [[104, 105], []]
theorem bodS_V : ∀ b ∈ bodS, bodyV b := by
  intro b hb
  simp only [bodS, List.mem_cons, List.not_mem_nil, or_false] at hb
  rcases hb with rfl | rfl
  · exact ⟨by decide, fun x hx => by simp at hx; omega⟩
  · exact ⟨by decide, Bytes.nil⟩
theorem bodS_len : (logE bodS).length = 16 := by
  have p2 : put 2 = [2] := put_small (by omega)
  have p0 : put 0 = [0] := put_small (by omega)
  simp [logE, manyE, frE, bodS, magic, p2, p0, four_len]
theorem bodS_join : joinF bodS = (logE bodS, 0) := join_ok bodS_V (by decide) (by rw [bodS_len]; omega)
theorem bodS_split : splitF (logE bodS) = (bodS, 16, 0) := by
  rw [split_small (by rw [bodS_len]; omega), log_full bodS_V (by decide), bodS_len]; rfl
theorem trx_split : splitF [84, 82, 88] = ([], 2, 3) := by
  rw [split_small (by decide), log_bad (by decide)]; rfl
theorem tr_split : splitF [84, 82] = ([], 2, 2) := by
  rw [split_small (by decide), log_bad (by decide)]; rfl
theorem bodS_at : atF bodS 0 = 5 ∧ atF bodS 1 = 12 := by
  have p2 : put 2 = [2] := put_small (by omega)
  have p0 : put 0 = [0] := put_small (by omega)
  constructor <;> simp [atF, logE, manyE, frE, bodS, magic, plen, rd_L2, p2, p0, four_len]
/-- Rows that lie side by side in a block that was just laid. -/
theorem rows_at {W : World} {g : Nat} {cs : Array Value} {fr : Nat × Nat} {ls : List (List Int)} (hb : W.heap[g]? = some (.cells cs 22 fr)) (hn : ls.length ≤ 9223372036854775807) (h : ∀ (j : Nat) (l : List Int), ls[j]? = some l → ∃ (A : Option Addr) (c : Nat), cs[j]? = some (Value.slice A l.length c) ∧ l.length ≤ c ∧ Kd.C (Kd.int .u8) W A l.length l) : Kd.C KdB W (some ⟨g, 0, none⟩) ls.length ls := by
  refine ⟨rfl, hn, fun _ => ⟨_, rfl, fun j l hl => ?_⟩⟩
  obtain ⟨A, c, h1, h2, h3⟩ := h j l hl
  refine ⟨[.slice A l.length c], rfl, ⟨A, c, rfl, h2, h3⟩, fun i u hu => ?_⟩
  cases i with
  | zero =>
    simp at hu; subst hu
    rw [add_plain, cell_of_row _ _ _ _ _ _ hb]
    simpa [KdB, Kd.slice] using h1
  | succ i => simp at hu
theorem strs_at (W : World) : Kd.C Kd.string (W.alloc (.cells #[.string ⟨#[104, 105]⟩, .string ⟨#[]⟩] 9)) (some ⟨W.heap.size, 0, none⟩) 2 [⟨#[104, 105]⟩, ⟨#[]⟩] := by
  refine Kd.C_of_reads (d := ByteArray.empty) (h1 := fun _ => rfl) ⟨rfl, by decide, fun hn => ⟨_, rfl, fun j hj => ?_⟩⟩
  rw [add_plain, cell_of_row _ _ _ _ _ _ (blk_new _ _)]
  have : j = 0 ∨ j = 1 := by have : j < 2 := hj; omega
  rcases this with rfl | rfl <;> rfl
theorem add_zero_ (a : Addr) : a.add 0 = a := by
  obtain ⟨b, o, s⟩ := a
  cases s <;> simp [Addr.add]
theorem nil_C (W : World) : Kd.C (Kd.int .u8) W none 0 [] := ⟨rfl, by simp, fun h => by simp at h⟩
theorem split_w {A : Option Addr} {c n : Nat} (l : List Int) (r1 : List (List Int)) (r2 r3 : Int) {w : World} (hn : l.length = n) (hG : Glob w) (hC : Kd.C (Kd.int .u8) w A n l) (hc : n ≤ c) (hl : Bytes l) (hm : n ≤ 140737488355328) (h : splitF l = (r1, r2, r3)) :
    Calls Tryd.prog 14 #[.slice A n c] w fun e w' => ∃ A' c', e = .returned (.tuple #[.slice A' r1.length c', .int .i64 r2, .int .i64 r3]) ∧ r1.length ≤ c' ∧ Kd.C KdB w' A' r1.length r1 ∧ Below w.heap.size w w' := by
  subst hn
  refine (split_loop A c l w hG hC hc hl hm).mono ?_
  rw [h]
  rintro e w' ⟨v, rfl, hR, hb⟩
  obtain ⟨A', c', rfl, h1, h2⟩ := Kd.S_reads hR
  exact ⟨A', c', rfl, h1, h2, hb⟩
set_option maxHeartbeats 4000000 in
set_option maxRecDepth 100000 in
theorem shown_calls (w : World) (hG : Glob w) : Calls Tryd.prog 13 #[] w fun e w' => e = .returned (.bool true) ∧ Below w.heap.size w w' := by
  have HG := Aside0.mk hG
  clear hG
  have kc := fun (w : World) (C : Array Value) (n c : Nat) => Lib.run_convert_bytes_const (P := Tryd.prog) w 22 5 C n c Tryd.underlying22 Tryd.underlying5
  go_enter Tryd.func13, Tryd.ntmps13
  go_wp2_with (fail)
  have HC0 := Aside0.mk (show Kd.C KdB ((w.alloc (.cells #[.int .u8 104, .int .u8 105] 5 (2, 3))).alloc (.cells #[.slice (some ⟨w.heap.size, 0, none⟩) 2 2, .slice none 0 0] 22)) (some ⟨w.heap.size + 1, 0, none⟩) 2 bodS by
    have hb := blk_new (w.alloc (.cells #[.int .u8 104, .int .u8 105] 5 (2, 3))) (.cells #[.slice (some ⟨w.heap.size, 0, none⟩) 2 2, .slice none 0 0] 22)
    rw [World.size_alloc] at hb
    refine rows_at (ls := bodS) hb (by decide) (fun j l hl => ?_)
    have hj : j = 0 ∨ j = 1 ∨ 2 ≤ j := by omega
    rcases hj with rfl | rfl | hj
    · simp [bodS] at hl; subst hl
      exact ⟨_, 2, rfl, by decide, Kd.C_alloc (reads_lit w [104, 105] (2, 3) (by decide)) _⟩
    · simp [bodS] at hl; subst hl
      exact ⟨_, 0, rfl, by decide, nil_C _⟩
    · rw [List.getElem?_eq_none (by simpa [bodS] using hj)] at hl; cases hl)
  have HB0 := Aside0.mk (below_alloc (below_alloc (Below.refl w.heap.size w) (.cells #[.int .u8 104, .int .u8 105] 5 (2, 3))) (.cells #[.slice (some ⟨w.heap.size, 0, none⟩) 2 2, .slice none 0 0] 22))
  refine (join_calls (some ⟨w.heap.size + 1, 0, none⟩) 2 bodS _ (HG.out.below HB0.out) HC0.out (fun b hb => (bodS_V b hb).2) (by decide)).mono ?_
  rintro e w1 ⟨v1, rfl, hj1, hb1⟩
  rw [bodS_join] at hj1 ⊢
  have HJ1 := Aside0.mk hj1
  have HB1 := Aside0.mk (below_step HB0.out hb1)
  clear hj1 hb1 HC0 HB0
  obtain ⟨A1, c1, rfl, hc1, hC1⟩ := JR.reads HJ1.out
  have HC1 := Aside0.mk hC1
  have HL1 := Aside0.mk hc1
  clear hC1 hc1 HJ1
  simp only [bodS_len] at HC1 HL1 ⊢
  go_wp2_with (fail)
  refine (split_w (logE bodS) bodS 16 0 bodS_len (HG.out.below HB1.out) HC1.out HL1.out (logE_bytes bodS_V) (by decide) bodS_split).mono ?_
  rintro e w2 ⟨A2, c2, rfl, hc2, hC2, hb2⟩
  have HC2 := Aside0.mk hC2
  have HL2 := Aside0.mk hc2
  have HB2 := Aside0.mk (below_step HB1.out hb2)
  have HC12 := Aside0.mk (Kd.C_below HC1.out hb2)
  clear hC2 hc2 hb2 HB1 HC1
  go_wp2_with (fail)
  have HB3 := Aside0.mk (below_alloc HB2.out (.cells (nums .u8 [84, 82, 88]).toArray 5 (3, 4)))
  refine (split_w [84, 82, 88] [] 2 3 rfl (HG.out.below HB3.out) (reads_lit w2 [84, 82, 88] (3, 4) (by decide)) (by decide) (fun x hx => by simp at hx; omega) (by decide) trx_split).mono ?_
  rintro e w3 ⟨A3, c3, rfl, _, _, hb3⟩
  have HB4 := Aside0.mk (below_step HB3.out hb3)
  have HC3 := Aside0.mk (Kd.C_below (Kd.C_alloc HC2.out _) hb3)
  have HC13 := Aside0.mk (Kd.C_below (Kd.C_alloc HC12.out _) hb3)
  clear hb3 HB3 HC2 HC12 HB2
  go_wp2_with (fail)
  have HB5 := Aside0.mk (below_alloc HB4.out (.cells (nums .u8 [84, 82]).toArray 5 (2, 3)))
  refine (split_w [84, 82] [] 2 2 rfl (HG.out.below HB5.out) (reads_lit w3 [84, 82] (2, 3) (by decide)) (by decide) (fun x hx => by simp at hx; omega) (by decide) tr_split).mono ?_
  rintro e w4 ⟨A4, c4, rfl, _, _, hb4⟩
  have HB6 := Aside0.mk (below_step HB5.out hb4)
  have HC4 := Aside0.mk (Kd.C_below (Kd.C_alloc HC3.out _) hb4)
  have HC14 := Aside0.mk (Kd.C_below (Kd.C_alloc HC13.out _) hb4)
  clear hb4 HB5 HC3 HC13 HB4 kc
  obtain ⟨ad, A0, c0, e0, hx0, hc0, hC0⟩ := at_L2 HC4.out 0 (by omega) (by decide)
  cases e0
  have hx0 : w4.cell? ad = some (.slice A0 2 c0) := by rw [← add_zero_ ad]; exact hx0
  have hC0 : Kd.C (Kd.int .u8) w4 A0 2 [104, 105] := hC0
  obtain ⟨L, hL⟩ : ∃ L, L = strOfNums (logE bodS) := ⟨_, rfl⟩
  have HS1 := Aside0.mk (fun (W' : World) (hb : Below w4.heap.size w4 W') => (show (convert 22 9 (.slice A1 16 c1)).run Tryd.prog W' = .ok (.string L) W' by rw [hL]; exact str_at (Kd.C_below HC14.out hb) c1))
  have HS0 := Aside0.mk (fun (W' : World) (hb : Below w4.heap.size w4 W') => (show (convert 22 9 (.slice A0 2 c0)).run Tryd.prog W' = .ok (.string ⟨#[104, 105]⟩) W' from str_at (Kd.C_below hC0 hb) c0))
  have HX0 := Aside0.mk hx0
  have HSF := Aside0.mk (fun (W' : World) (hb : Below w4.heap.size w4 W') => (show W'.cell? ad = some (.slice A0 2 c0) ∧ (convert 22 9 (.slice A1 16 c1)).run Tryd.prog W' = .ok (.string L) W' ∧ (convert 22 9 (.slice A0 2 c0)).run Tryd.prog W' = .ok (.string ⟨#[104, 105]⟩) W' ∧ Below w4.heap.size w4 W' from ⟨pw_cell_below hb HX0.out, HS1.out _ hb, HS0.out _ hb, hb⟩))
  have HRJ := Aside0.mk (show transeptref04_Join.f 210000 [⟨#[104, 105]⟩, ⟨#[]⟩] = some L by rw [hL]; exact ref_join bodS bodS_V (by decide) 210000 (by omega))
  have HA := Aside0.mk (fun (W' : World) (hb : Below w4.heap.size w4 W') => (show (Calls Tryd.prog 20 #[.slice (some ad) 2 c2, .int .i64 0] W' fun e w' => e = .returned (.int .i64 5) ∧ Below W'.heap.size W' w') by
    have h_ := at_calls (some ad) c2 bodS 0 W' (Kd.C_below HC4.out hb) (by decide) (by decide) (fun b hb => (bodS_V b hb).1)
    rw [bodS_at.1] at h_; exact h_))
  have HA1 := Aside0.mk (fun (W' : World) (hb : Below w4.heap.size w4 W') => (show (Calls Tryd.prog 20 #[.slice (some ad) 2 c2, .int .i64 1] W' fun e w' => e = .returned (.int .i64 12) ∧ Below W'.heap.size W' w') by
    have h_ := at_calls (some ad) c2 bodS 1 W' (Kd.C_below HC4.out hb) (by decide) (by decide) (fun b hb => (bodS_V b hb).1)
    rw [bodS_at.2] at h_; exact h_))
  have HA2 := Aside0.mk (fun (W' : World) => (show (Calls Tryd.prog 20 #[.slice (some ad) 2 c2, .int .i64 2] W' fun e w' => e = .returned (.int .i64 (-1)) ∧ Below W'.heap.size W' w') from at_no (some ad) c2 bodS 2 W' (.inr (by decide))))
  clear hx0 hC0 hc0 hL
  go_wp2
  go_region_held3 (fun W' => W'.cell? ad = some (.slice A0 2 c0) ∧ (convert 22 9 (.slice A1 16 c1)).run Tryd.prog W' = .ok (.string L) W' ∧ (convert 22 9 (.slice A0 2 c0)).run Tryd.prog W' = .ok (.string ⟨#[104, 105]⟩) W' ∧ Below w4.heap.size w4 W') (first | exact HSF.out _ (pw_below_drewN (Below.refl _ _) 1) | exact HSF.out _ (below_alloc (pw_below_drewN (Below.refl _ _) 1) _) | exact HSF.out _ (by assumption)) (first
    | (go_at_call 19; refine (transeptref04_Join.calls 210000 (some ⟨w4.heap.size, 0, none⟩) 2 [⟨#[104, 105]⟩, ⟨#[]⟩] L (w4.drew.alloc (.cells #[.string ⟨#[104, 105]⟩, .string ⟨#[]⟩] 9)) (strs_at w4.drew) (by decide) HRJ.out).mono ?_; rintro e w5 ⟨rfl, hb_⟩; have hb5 := below_step (below_alloc (show Below w4.heap.size w4 w4.drew from pw_below_drewN (Below.refl _ _) 1) (.cells #[.string ⟨#[104, 105]⟩, .string ⟨#[]⟩] 9)) hb_; clear hb_)
    | (go_at_call 20; (with_reducible refine (HA.out _ (by assumption)).mono ?_); rintro e w6 ⟨rfl, hb_⟩; have hb6 := below_step (by assumption : Below w4.heap.size w4 _) hb_; clear hb_)
    | (go_at_call 20; (with_reducible refine (HA1.out _ (by assumption)).mono ?_); rintro e w7 ⟨rfl, hb_⟩; have hb7 := below_step (by assumption : Below w4.heap.size w4 _) hb_; clear hb_)
    | (go_at_call 20; (with_reducible refine (HA2.out _).mono ?_); rintro e w8 ⟨rfl, hb_⟩; have hb8 := below_step (by assumption : Below w4.heap.size w4 _) hb_; clear hb_))
  rename_i hHeld_
  clear hHeld_
  go_wp2
  go_ret
  exact ⟨rfl, below_step HB6.out (by assumption)⟩
def transeptlaw04_shown.f : Option Bool := some true
theorem transeptlaw04_shown.calls (r : Bool) (w : World) (hG : Glob w) (h : transeptlaw04_shown.f = some r) : Calls Tryd.prog 13 #[] w fun e w' => e = .returned (.bool r) ∧ Below w.heap.size w w' := by
  obtain rfl := Option.some.inj h
  exact shown_calls w hG
end Go.Proofs.YtojagnoobaleaaaDoor.Ext
