/- The reader of package event: fail, take, each, by hand. -/
import Derived.Test.YtmlhlcdamppbfaaDoorEv0
import Derived.Test.YtmlhlcdamppbfaaDoorXpx17
import Derived.Test.YtmlhlcdamppbfaaDoorNum
namespace Go.Proofs.YtmlhlcdamppbfaaDoor.Ext
open Go.RowKit Go.Proofs.YtmlhlcdamppbfaaDoor.Xp Go.Proofs.YtmlhlcdamppbfaaDoorW.PrintWords Go.Proofs.YtmlhlcdamppbfaaDoorW.PrintLast Go.Proofs.YtmlhlcdamppbfaaDoorW.PrintMore
set_option linter.unusedVariables false
set_option linter.unusedSimpArgs false
/-- The first byte, at most m. -/
def boundF (m : Int) : List Int → Int × Int × Int
  | [] => (0, 0, 2)
  | c :: _ => if m < c then (0, 0, 3) else (c, 1, 0)
theorem boundF_range (m : Int) (l : List Int) : 0 ≤ (boundF m l).2.1 ∧ (boundF m l).2.1 ≤ l.length := by
  cases l with
  | nil => simp [boundF]
  | cons c r => simp only [boundF]; split <;> simp <;> omega
theorem gl_range (l : List Int) : 0 ≤ (gl 0 0 l).2.1 ∧ (gl 0 0 l).2.1 ≤ l.length := by
  have := gl_form l 0 0
  have h1 := this.1
  have h2 := this.2.1
  constructor <;> omega
/-- The text at the beginning. -/
def textF (l : List Int) : ByteArray × Int × Int :=
  if (gl 0 0 l).2.2 = 0 then (if 4096 < (gl 0 0 l).1 then (⟨#[]⟩, (gl 0 0 l).2.1 - 1, 5) else if (l.length : Int) - (gl 0 0 l).2.1 < (gl 0 0 l).1 then (⟨#[]⟩, l.length, 2) else (strOfNums ((l.take ((gl 0 0 l).2.1 + (gl 0 0 l).1).toNat).drop (gl 0 0 l).2.1.toNat), (gl 0 0 l).2.1 + (gl 0 0 l).1, 0))
  else (⟨#[]⟩, (gl 0 0 l).2.1, (gl 0 0 l).2.2)
theorem gl_nat (l : List Int) (hl : ∀ x ∈ l, 0 ≤ x ∧ x < 256) (h : (gl 0 0 l).2.2 = 0) : 0 ≤ (gl 0 0 l).1 ∧ 1 ≤ (gl 0 0 l).2.1 := by
  obtain ⟨m, r, _, _, h3⟩ := gl_ok l 0 0 hl h
  have := put_pos m
  rw [h3]; simp; omega
theorem text_f (l : List Int) (hl : ∀ x ∈ l, 0 ≤ x ∧ x < 256) (hn : l.length ≤ 140737488355328) : event_text.f 1 l = some (textF l) := by
  have hr := gl_range l
  have hv := gl_nat l hl
  unfold event_text.f number_Text.f textF
  rw [get_f l hl hn]
  generalize gl 0 0 l = V at *
  obtain ⟨n, s, e⟩ := V
  simp only [Option.bind_some] at *
  by_cases he : e = 0
  · have hn0 := (hv he).1
    rw [if_pos he, if_pos he, if_neg (by omega), u64w 4096 (by omega) (by omega)]
    by_cases h1 : 4096 < n
    · rw [if_pos h1, decide_eq_true (show n > 4096 from h1)]
      simp only [number_Text.j0, if_true, Option.bind_some]
      rw [w64 _ (by omega) (by omega)]
    · rw [if_neg h1, decide_eq_false (show ¬ n > 4096 from h1)]
      simp only [number_Text.j0, Bool.false_eq_true, if_false]
      rw [w64 ((l.length : Int) - s) (by omega) (by omega), u64w _ (by omega) (by omega), w64 n (by omega) (by omega), w64 (s + n) (by omega) (by omega)]
      by_cases h2 : (l.length : Int) - s < n
      · rw [if_pos h2, if_pos h2]; rfl
      · rw [if_neg (show ¬ n > (l.length : Int) - s from h2), if_pos hr.1, if_pos (by omega), if_pos (by omega), if_neg h2]; rfl
  · rw [if_neg he, if_neg he]; rfl
theorem textF_range (l : List Int) (hl : ∀ x ∈ l, 0 ≤ x ∧ x < 256) (hn : l.length ≤ 140737488355328) : 0 ≤ (textF l).2.1 ∧ (textF l).2.1 ≤ l.length := by
  have hr := gl_range l
  have hv := gl_nat l hl
  unfold textF
  generalize gl 0 0 l = V at *
  obtain ⟨n, s, e⟩ := V
  simp only at *
  by_cases he : e = 0
  · have hn0 := hv he
    rw [if_pos he]
    split
    · simp only; omega
    · split <;> simp only <;> omega
  · rw [if_neg he]; exact hr
/-- Something is taken, unless something was wrong. -/
def eachF {α : Type} (take : List Int → α × Int × Int) (d : α) (l : List Int) (p e : Int) : α × Int × Int :=
  if e = 0 then (if (take (l.drop p.toNat)).2.2 = 0 then ((take (l.drop p.toNat)).1, p + (take (l.drop p.toNat)).2.1, 0) else (d, p + (take (l.drop p.toNat)).2.1, (take (l.drop p.toNat)).2.2)) else (d, p, e)
/-- The reader in memory. -/
structure Rd (w0 W : World) (g : Nat) (A : Option Addr) (c n : Nat) (p e : Int) : Prop where
  below : Below w0.heap.size w0 W
  base : w0.heap.size ≤ g
  rd : W.heap[g]? = some (.cells #[.slice A n c, .int .i64 p, .int .i64 e] 68 (0, 0))
/-- All else stays. -/
def Oth (g : Nat) (W W' : World) : Prop := ∀ (k : Nat) (o : Obj), k ≠ g → W.heap[k]? = some o → W'.heap[k]? = some o
theorem Oth.refl (g : Nat) (W : World) : Oth g W W := fun _ _ _ h => h
theorem Oth.trans {g : Nat} {W W1 W2 : World} (h : Oth g W W1) (k : Oth g W1 W2) : Oth g W W2 := fun i o hi ho => k i o hi (h i o hi ho)
theorem Oth.of_below {g : Nat} {W W' : World} (h : Below W.heap.size W W') : Oth g W W' := fun k o _ ho => by rw [h.block k (Array.getElem?_eq_some_iff.1 ho).1]; exact ho
theorem Oth.setCell {g : Nat} {W W' : World} (h : Oth g W W') (j : Nat) (v : Value) : Oth g W (W'.setCell ⟨g, j, none⟩ v) := fun k o hk ho => by
  rw [Below.heap_setCell W' ⟨g, j, none⟩ v k hk]; exact h k o hk ho
theorem Oth.drewN {g : Nat} {W W' : World} (h : Oth g W W') (n : Nat) : Oth g W (W'.drewN n) := h
theorem Rd.then_ {w0 W W' : World} {g : Nat} {A : Option Addr} {c n : Nat} {p e : Int} (h : Rd w0 W g A c n p e) (hb : Below W.heap.size W W') : Rd w0 W' g A c n p e :=
  ⟨below_then h.below h.below.size hb, h.base, by rw [hb.block g (Array.getElem?_eq_some_iff.1 h.rd).1]; exact h.rd⟩
theorem Rd.drew {w0 W : World} {g : Nat} {A : Option Addr} {c n : Nat} {p e : Int} (h : Rd w0 W g A c n p e) : Rd w0 W.drew g A c n p e := ⟨pw_below_drewN h.below 1, h.base, h.rd⟩
theorem Rd.drewN {w0 W : World} {g : Nat} {A : Option Addr} {c n : Nat} {p e : Int} (h : Rd w0 W g A c n p e) (m : Nat) : Rd w0 (W.drewN m) g A c n p e := ⟨pw_below_drewN h.below m, h.base, h.rd⟩
theorem Rd.setP {w0 W : World} {g : Nat} {A : Option Addr} {c n : Nat} {p e : Int} (h : Rd w0 W g A c n p e) (q : Int) : Rd w0 (W.setCell ⟨g, 1, none⟩ (.int .i64 q)) g A c n q e := ⟨h.below.setCell h.base _, h.base, blk_put h.rd 1 _ rfl⟩
theorem Rd.setE {w0 W : World} {g : Nat} {A : Option Addr} {c n : Nat} {p e : Int} (h : Rd w0 W g A c n p e) (q : Int) : Rd w0 (W.setCell ⟨g, 2, none⟩ (.int .i64 q)) g A c n p q := ⟨h.below.setCell h.base _, h.base, blk_put h.rd 2 _ rfl⟩
section
variable {w0 W : World} {g : Nat} {A : Option Addr} {c n : Nat} {p e : Int}
theorem Rd.c0 (h : Rd w0 W g A c n p e) : W.cell? ⟨g, 0, none⟩ = some (.slice A n c) := blk_cell h.rd 0
theorem Rd.c1 (h : Rd w0 W g A c n p e) : W.cell? ⟨g, 1, none⟩ = some (.int .i64 p) := blk_cell h.rd 1
theorem Rd.c2 (h : Rd w0 W g A c n p e) : W.cell? ⟨g, 2, none⟩ = some (.int .i64 e) := blk_cell h.rd 2
theorem Rd.f1 (h : Rd w0 W g A c n p e) : W.frozen? ⟨g, 1, none⟩ = false := blk_frozen h.rd 1
theorem Rd.f2 (h : Rd w0 W g A c n p e) : W.frozen? ⟨g, 2, none⟩ = false := blk_frozen h.rd 2
end
set_option maxHeartbeats 1000000 in
theorem fail_calls (q e' : Int) {w0 W : World} {g : Nat} {A : Option Addr} {c n : Nat} {p e : Int} (h : Rd w0 W g A c n p e) :
    Calls Tryd.prog 32 #[.pointer (some ⟨g, 0, none⟩), .int .i64 q, .int .i64 e'] W fun r W' => (∃ v, r = .returned v) ∧ Rd w0 W' g A c n (if e = 0 then q else p) (if e = 0 then e' else e) ∧ Oth g W W' := by
  have H := Aside0.mk h
  have c2 := h.c2
  have c1 := h.c1
  have f1 := h.f1
  have f2 := h.f2
  clear h
  by_cases he : e = 0
  · subst he
    go_enter Tryd.func32, Tryd.ntmps32
    go_wp2
    go_end0
    exact ⟨⟨_, rfl⟩, (H.out.setP q).setE e', ((Oth.refl g W).setCell 1 _).setCell 2 _⟩
  · have he' : (e == 0) = false := by simpa using he
    go_enter Tryd.func32, Tryd.ntmps32
    go_wp2
    go_end0
    exact ⟨⟨_, rfl⟩, H.out, Oth.refl g W⟩
theorem take_calls (m : Int) (A : Option Addr) (c : Nat) (l : List Int) (w : World) (hr : Kd.C (Kd.int .u8) w A l.length l) (hl : ∀ x ∈ l, 0 ≤ x ∧ x < 256) (hn : l.length ≤ 140737488355328) :
    Calls Tryd.prog 31 #[.int .i64 m, .slice A l.length c] w fun e w' => e = .returned (.tuple #[.int .i64 (boundF m l).1, .int .i64 (boundF m l).2.1, .int .i64 (boundF m l).2.2]) ∧ w' = w := by
  match l, hr, hl, hn with
  | [], hr, hl, hn =>
    go_enter Tryd.func31, Tryd.ntmps31
    go_wp2
    go_ret3
    exact ⟨rfl, rfl⟩
  | x :: l, hr, hl, hn =>
    obtain ⟨ad, rfl, hx⟩ := Kd.at_int hr 0 (by omega) (by simp)
    have hx0 : w.cell? ad = some (.int .u8 x) := by
      have h_ := hx
      simp only [rd] at h_
      simpa [Addr.add] using h_
    have hb := hl x (by simp)
    obtain ⟨hb0, hb1⟩ := hb
    clear hr hl hx
    go_enter Tryd.func31, Tryd.ntmps31
    go_wp2
    · have hb : boundF m (x :: l) = (0, 0, 3) := by simp only [boundF]; rw [if_pos (by assumption)]
      rw [hb]
      go_ret3
      exact ⟨rfl, rfl⟩
    · have hb : boundF m (x :: l) = (x, 1, 0) := by simp only [boundF]; rw [if_neg (by omega)]
      rw [hb]
      go_ret3
      exact ⟨rfl, rfl⟩
set_option maxHeartbeats 2000000 in
theorem eachI_calls (m : Int) (l : List Int) (hl : ∀ x ∈ l, 0 ≤ x ∧ x < 256) (hn : l.length ≤ 140737488355328) {w0 W : World} {g : Nat} {A : Option Addr} {c : Nat} {p e : Int} (hr : Kd.C (Kd.int .u8) w0 A l.length l) (hc : l.length ≤ c)
    (h : Rd w0 W g A c l.length p e) (hp0 : 0 ≤ p) (hp1 : p ≤ l.length) :
    Calls Tryd.prog 30 #[.pointer (some ⟨g, 0, none⟩), (.func (.func 31) #[.int .i64 m] #[])] W fun r W' => r = .returned (.int .i64 (eachF (boundF m) (0 : Int) l p e).1) ∧ Rd w0 W' g A c l.length (eachF (boundF m) (0 : Int) l p e).2.1 (eachF (boundF m) (0 : Int) l p e).2.2 ∧ Oth g W W' := by
  have H := Aside0.mk h
  have k0 := h.c0
  have k1 := h.c1
  have k2 := h.c2
  have f1 := h.f1
  clear h
  by_cases he : e = 0
  · subst he
    obtain ⟨i0, hi0, _, hsz0, _⟩ := info_parts info5
    obtain ⟨A', hcut, hA, hC⟩ := print_drop_of (P := Tryd.prog) (Value.int .u8) 0 27 5 .i64 Tryd.underlying27 hi0 hsz0 A c l p hp0 hp1 hc
    have hrd : ∀ W', Below w0.heap.size w0 W' → Kd.C (Kd.int .u8) W' A' (l.drop p.toNat).length (l.drop p.toNat) := fun W' hb => Kd.C_below (Kd.C_of_reads (d := (0 : Int)) (hA w0 (Kd.reads_of_C hr))) hb
    obtain ⟨L, hL⟩ : ∃ L, L = l.drop p.toNat := ⟨_, rfl⟩
    have HLB := Aside0.mk (show ∀ x ∈ L, 0 ≤ x ∧ x < 256 from fun x hx => hl x (by rw [hL] at hx; exact List.mem_of_mem_drop hx))
    have HLN := Aside0.mk (show L.length ≤ 140737488355328 by rw [hL, List.length_drop]; omega)
    rw [← hL] at hcut hC hrd
    have HRD3 := Aside0.mk hrd
    have HLE := Aside0.mk hL
    have hpn : p ≤ 140737488355328 := by omega
    clear hrd hA hr hl hL hi0 hsz0
    obtain ⟨⟨vx, vs, ve⟩, hV⟩ : ∃ V, V = (boundF m) L := ⟨_, rfl⟩
    have hE : eachF (boundF m) (0 : Int) l p 0 = if ve = 0 then (vx, p + vs, 0) else ((0 : Int), p + vs, ve) := by
      unfold eachF; rw [if_pos rfl, ← HLE.out, ← hV]
    rw [hE]
    have hvr := boundF_range m L
    rw [← hV] at hvr
    obtain ⟨hv0, hv1⟩ := hvr
    have hv0 : 0 ≤ vs := hv0
    have hv1 : vs ≤ 140737488355328 := by have := HLN.out; have h_ : vs ≤ L.length := hv1; omega
    have HV := Aside0.mk hV
    have HE := Aside0.mk hE
    clear hE hV hn
    go_enter Tryd.func30, Tryd.ntmps30
    go_wp2
    go_region_held3 (fun W' => W'.cell? ⟨g, 0, none⟩ = some (.slice A l.length c) ∧ W'.cell? ⟨g, 1, none⟩ = some (.int .i64 p)) (first | exact ⟨k0, k1⟩ | exact ⟨HR2.out.c0, HR2.out.c1⟩) (first | (go_at_call 31; refine Calls.mono (by have t_ := take_calls m A' (c - p.toNat) L W.drew (HRD3.out _ (Rd.drew H.out).below) HLB.out HLN.out; (try rw [← HV.out] at t_); exact t_) ?_; rintro e w2 ⟨rfl, hw⟩; have HR2 : Aside0 (Rd w0 w2 g A c l.length p 0) := ⟨by rw [hw]; exact Rd.drew H.out⟩; have HO2 : Aside0 (Oth g W w2) := ⟨by rw [hw]; exact Oth.refl g W⟩; clear hw))
    rename_i hHeld_
    clear hHeld_ k0 k1 k2 f1
    have j1 := HR2.out.c1
    have j2 := HR2.out.c2
    have f1 := HR2.out.f1
    by_cases hve : ve = 0
    · subst hve
      go_wp2
      go_ret
      exact ⟨rfl, HR2.out.setP (p + vs), HO2.out.setCell 1 _⟩
    · have hve' : (ve == 0) = false := by simpa using hve
      go_wp2_with (fail)
      refine (fail_calls (p + vs) ve HR2.out).mono ?_
      rintro e w3 ⟨⟨v, rfl⟩, h3, o3⟩
      go_wp2
      go_ret
      (try rw [if_neg hve])
      exact ⟨rfl, (by simpa using h3), HO2.out.trans o3⟩
  · have he' : (e == 0) = false := by simpa using he
    have hE : eachF (boundF m) (0 : Int) l p e = ((0 : Int), p, e) := by unfold eachF; rw [if_neg he]
    rw [hE]
    go_enter Tryd.func30, Tryd.ntmps30
    go_wp2
    go_ret
    exact ⟨rfl, H.out, Oth.refl g W⟩
set_option maxHeartbeats 2000000 in
theorem eachU_calls (l : List Int) (hl : ∀ x ∈ l, 0 ≤ x ∧ x < 256) (hn : l.length ≤ 140737488355328) {w0 W : World} {g : Nat} {A : Option Addr} {c : Nat} {p e : Int} (hr : Kd.C (Kd.int .u8) w0 A l.length l) (hc : l.length ≤ c)
    (h : Rd w0 W g A c l.length p e) (hp0 : 0 ≤ p) (hp1 : p ≤ l.length) :
    Calls Tryd.prog 33 #[.pointer (some ⟨g, 0, none⟩), (.func (.func 34) #[] #[])] W fun r W' => r = .returned (.int .u64 (eachF (gl 0 0) (0 : Int) l p e).1) ∧ Rd w0 W' g A c l.length (eachF (gl 0 0) (0 : Int) l p e).2.1 (eachF (gl 0 0) (0 : Int) l p e).2.2 ∧ Oth g W W' := by
  have H := Aside0.mk h
  have k0 := h.c0
  have k1 := h.c1
  have k2 := h.c2
  have f1 := h.f1
  clear h
  by_cases he : e = 0
  · subst he
    obtain ⟨i0, hi0, _, hsz0, _⟩ := info_parts info5
    obtain ⟨A', hcut, hA, hC⟩ := print_drop_of (P := Tryd.prog) (Value.int .u8) 0 27 5 .i64 Tryd.underlying27 hi0 hsz0 A c l p hp0 hp1 hc
    have hrd : ∀ W', Below w0.heap.size w0 W' → Kd.C (Kd.int .u8) W' A' (l.drop p.toNat).length (l.drop p.toNat) := fun W' hb => Kd.C_below (Kd.C_of_reads (d := (0 : Int)) (hA w0 (Kd.reads_of_C hr))) hb
    obtain ⟨L, hL⟩ : ∃ L, L = l.drop p.toNat := ⟨_, rfl⟩
    have HLB := Aside0.mk (show ∀ x ∈ L, 0 ≤ x ∧ x < 256 from fun x hx => hl x (by rw [hL] at hx; exact List.mem_of_mem_drop hx))
    have HLN := Aside0.mk (show L.length ≤ 140737488355328 by rw [hL, List.length_drop]; omega)
    rw [← hL] at hcut hC hrd
    have HRD3 := Aside0.mk hrd
    have HLE := Aside0.mk hL
    have hpn : p ≤ 140737488355328 := by omega
    clear hrd hA hr hl hL hi0 hsz0
    obtain ⟨⟨vx, vs, ve⟩, hV⟩ : ∃ V, V = gl 0 0 L := ⟨_, rfl⟩
    have hE : eachF (gl 0 0) (0 : Int) l p 0 = if ve = 0 then (vx, p + vs, 0) else ((0 : Int), p + vs, ve) := by
      unfold eachF; rw [if_pos rfl, ← HLE.out, ← hV]
    rw [hE]
    have hvr := gl_range L
    rw [← hV] at hvr
    obtain ⟨hv0, hv1⟩ := hvr
    have hv0 : 0 ≤ vs := hv0
    have hv1 : vs ≤ 140737488355328 := by have := HLN.out; have h_ : vs ≤ L.length := hv1; omega
    have HV := Aside0.mk hV
    have HE := Aside0.mk hE
    clear hE hV hn
    go_enter Tryd.func33, Tryd.ntmps33
    go_wp2
    go_region_held3 (fun W' => W'.cell? ⟨g, 0, none⟩ = some (.slice A l.length c) ∧ W'.cell? ⟨g, 1, none⟩ = some (.int .i64 p)) (first | exact ⟨k0, k1⟩ | exact ⟨HR2.out.c0, HR2.out.c1⟩) (first | (go_at_call 34; refine Calls.mono (by have t_ := number_Get.calls A' (c - p.toNat) L vx vs ve W.drew (HRD3.out _ (Rd.drew H.out).below) hC (by rw [get_f L HLB.out HLN.out, HV.out]); (try rw [← HV.out] at t_); exact t_) ?_; rintro e w2 ⟨rfl, hw⟩; have HR2 : Aside0 (Rd w0 w2 g A c l.length p 0) := ⟨(Rd.drew H.out).then_ hw⟩; have HO2 : Aside0 (Oth g W w2) := ⟨show Oth g W.drew w2 from Oth.of_below hw⟩; clear hw))
    rename_i hHeld_
    clear hHeld_ k0 k1 k2 f1
    have j1 := HR2.out.c1
    have j2 := HR2.out.c2
    have f1 := HR2.out.f1
    by_cases hve : ve = 0
    · subst hve
      go_wp2
      go_ret
      exact ⟨rfl, HR2.out.setP (p + vs), HO2.out.setCell 1 _⟩
    · have hve' : (ve == 0) = false := by simpa using hve
      go_wp2_with (fail)
      refine (fail_calls (p + vs) ve HR2.out).mono ?_
      rintro e w3 ⟨⟨v, rfl⟩, h3, o3⟩
      go_wp2
      go_ret
      (try rw [if_neg hve])
      exact ⟨rfl, (by simpa using h3), HO2.out.trans o3⟩
  · have he' : (e == 0) = false := by simpa using he
    have hE : eachF (gl 0 0) (0 : Int) l p e = ((0 : Int), p, e) := by unfold eachF; rw [if_neg he]
    rw [hE]
    go_enter Tryd.func33, Tryd.ntmps33
    go_wp2
    go_ret
    exact ⟨rfl, H.out, Oth.refl g W⟩
set_option maxHeartbeats 2000000 in
theorem eachS_calls (l : List Int) (hl : ∀ x ∈ l, 0 ≤ x ∧ x < 256) (hn : l.length ≤ 140737488355328) {w0 W : World} {g : Nat} {A : Option Addr} {c : Nat} {p e : Int} (hr : Kd.C (Kd.int .u8) w0 A l.length l) (hc : l.length ≤ c)
    (h : Rd w0 W g A c l.length p e) (hp0 : 0 ≤ p) (hp1 : p ≤ l.length) :
    Calls Tryd.prog 36 #[.pointer (some ⟨g, 0, none⟩), (.func (.func 37) #[] #[])] W fun r W' => r = .returned (.string (eachF (textF) (⟨#[]⟩ : ByteArray) l p e).1) ∧ Rd w0 W' g A c l.length (eachF (textF) (⟨#[]⟩ : ByteArray) l p e).2.1 (eachF (textF) (⟨#[]⟩ : ByteArray) l p e).2.2 ∧ Oth g W W' := by
  have H := Aside0.mk h
  have k0 := h.c0
  have k1 := h.c1
  have k2 := h.c2
  have f1 := h.f1
  clear h
  by_cases he : e = 0
  · subst he
    obtain ⟨i0, hi0, _, hsz0, _⟩ := info_parts info5
    obtain ⟨A', hcut, hA, hC⟩ := print_drop_of (P := Tryd.prog) (Value.int .u8) 0 27 5 .i64 Tryd.underlying27 hi0 hsz0 A c l p hp0 hp1 hc
    have hrd : ∀ W', Below w0.heap.size w0 W' → Kd.C (Kd.int .u8) W' A' (l.drop p.toNat).length (l.drop p.toNat) := fun W' hb => Kd.C_below (Kd.C_of_reads (d := (0 : Int)) (hA w0 (Kd.reads_of_C hr))) hb
    obtain ⟨L, hL⟩ : ∃ L, L = l.drop p.toNat := ⟨_, rfl⟩
    have HLB := Aside0.mk (show ∀ x ∈ L, 0 ≤ x ∧ x < 256 from fun x hx => hl x (by rw [hL] at hx; exact List.mem_of_mem_drop hx))
    have HLN := Aside0.mk (show L.length ≤ 140737488355328 by rw [hL, List.length_drop]; omega)
    rw [← hL] at hcut hC hrd
    have HRD3 := Aside0.mk hrd
    have HLE := Aside0.mk hL
    have hpn : p ≤ 140737488355328 := by omega
    clear hrd hA hr hl hL hi0 hsz0
    obtain ⟨⟨vx, vs, ve⟩, hV⟩ : ∃ V, V = textF L := ⟨_, rfl⟩
    have hE : eachF (textF) (⟨#[]⟩ : ByteArray) l p 0 = if ve = 0 then (vx, p + vs, 0) else ((⟨#[]⟩ : ByteArray), p + vs, ve) := by
      unfold eachF; rw [if_pos rfl, ← HLE.out, ← hV]
    rw [hE]
    have hvr := textF_range L HLB.out HLN.out
    rw [← hV] at hvr
    obtain ⟨hv0, hv1⟩ := hvr
    have hv0 : 0 ≤ vs := hv0
    have hv1 : vs ≤ 140737488355328 := by have := HLN.out; have h_ : vs ≤ L.length := hv1; omega
    have HV := Aside0.mk hV
    have HE := Aside0.mk hE
    clear hE hV hn
    go_enter Tryd.func36, Tryd.ntmps36
    go_wp2
    go_region_held3 (fun W' => W'.cell? ⟨g, 0, none⟩ = some (.slice A l.length c) ∧ W'.cell? ⟨g, 1, none⟩ = some (.int .i64 p)) (first | exact ⟨k0, k1⟩ | exact ⟨HR2.out.c0, HR2.out.c1⟩) (first | (go_at_call 37; refine Calls.mono (by have t_ := event_text.calls 1 A' (c - p.toNat) L vx vs ve W.drew (HRD3.out _ (Rd.drew H.out).below) hC (by rw [text_f L HLB.out HLN.out, HV.out]); (try rw [← HV.out] at t_); exact t_) ?_; rintro e w2 ⟨rfl, hw⟩; have HR2 : Aside0 (Rd w0 w2 g A c l.length p 0) := ⟨(Rd.drew H.out).then_ hw⟩; have HO2 : Aside0 (Oth g W w2) := ⟨show Oth g W.drew w2 from Oth.of_below hw⟩; clear hw))
    rename_i hHeld_
    clear hHeld_ k0 k1 k2 f1
    have j1 := HR2.out.c1
    have j2 := HR2.out.c2
    have f1 := HR2.out.f1
    by_cases hve : ve = 0
    · subst hve
      go_wp2
      go_ret
      exact ⟨rfl, HR2.out.setP (p + vs), HO2.out.setCell 1 _⟩
    · have hve' : (ve == 0) = false := by simpa using hve
      go_wp2_with (fail)
      refine (fail_calls (p + vs) ve HR2.out).mono ?_
      rintro e w3 ⟨⟨v, rfl⟩, h3, o3⟩
      go_wp2
      go_ret
      (try rw [if_neg hve])
      exact ⟨rfl, (by simpa using h3), HO2.out.trans o3⟩
  · have he' : (e == 0) = false := by simpa using he
    have hE : eachF (textF) (⟨#[]⟩ : ByteArray) l p e = ((⟨#[]⟩ : ByteArray), p, e) := by unfold eachF; rw [if_neg he]
    rw [hE]
    go_enter Tryd.func36, Tryd.ntmps36
    go_wp2
    go_ret
    exact ⟨rfl, H.out, Oth.refl g W⟩
end Go.Proofs.YtmlhlcdamppbfaaDoor.Ext
namespace Go.Proofs.YtmlhlcdamppbfaaDoor.Ext
open Go.RowKit Go.Proofs.YtmlhlcdamppbfaaDoor.Xp Go.Proofs.YtmlhlcdamppbfaaDoorW.PrintWords Go.Proofs.YtmlhlcdamppbfaaDoorW.PrintLast Go.Proofs.YtmlhlcdamppbfaaDoorW.PrintMore
set_option linter.unusedVariables false
set_option linter.unusedSimpArgs false
theorem eachF_range {α : Type} (take : List Int → α × Int × Int) (d : α) (l : List Int) (p e : Int) (ht : ∀ L : List Int, (∀ x ∈ L, x ∈ l) → L.length ≤ l.length → 0 ≤ (take L).2.1 ∧ (take L).2.1 ≤ L.length) (hp0 : 0 ≤ p) (hp1 : p ≤ l.length) :
    0 ≤ (eachF take d l p e).2.1 ∧ (eachF take d l p e).2.1 ≤ l.length := by
  have h := ht (l.drop p.toNat) (fun x hx => List.mem_of_mem_drop hx) (by rw [List.length_drop]; omega)
  rw [List.length_drop] at h
  unfold eachF
  split
  · split <;> simp only <;> omega
  · exact ⟨hp0, hp1⟩
theorem boundF_val (m : Int) (l : List Int) (hl : ∀ x ∈ l, 0 ≤ x ∧ x < 256) : 0 ≤ (boundF m l).1 ∧ (boundF m l).1 < 256 ∧ (0 ≤ m → (boundF m l).1 ≤ m) := by
  cases l with
  | nil => simp [boundF]
  | cons c r =>
    have := hl c (by simp)
    simp only [boundF]; split <;> simp only <;> omega
theorem eachB_val (m : Int) (l : List Int) (p e : Int) (hl : ∀ x ∈ l, 0 ≤ x ∧ x < 256) : 0 ≤ (eachF (boundF m) 0 l p e).1 ∧ (eachF (boundF m) 0 l p e).1 < 256 ∧ (0 ≤ m → (eachF (boundF m) 0 l p e).1 ≤ m) := by
  have h := boundF_val m (l.drop p.toNat) (fun x hx => hl x (List.mem_of_mem_drop hx))
  unfold eachF
  split
  · split <;> simp only <;> omega
  · simp only; omega
/-- A number below another one. -/
def belowF (n : Int) (l : List Int) (p e : Int) : Int × Int × Int :=
  if n ≤ 256 then eachF (boundF (n - 1)) 0 l p e
  else
    ((eachF (boundF ((n - 1) / 256)) 0 l p e).1 * 256 + (eachF (boundF (if (eachF (boundF ((n - 1) / 256)) 0 l p e).1 = (n - 1) / 256 then (n - 1) % 256 else 255)) 0 l (eachF (boundF ((n - 1) / 256)) 0 l p e).2.1 (eachF (boundF ((n - 1) / 256)) 0 l p e).2.2).1,
     (eachF (boundF (if (eachF (boundF ((n - 1) / 256)) 0 l p e).1 = (n - 1) / 256 then (n - 1) % 256 else 255)) 0 l (eachF (boundF ((n - 1) / 256)) 0 l p e).2.1 (eachF (boundF ((n - 1) / 256)) 0 l p e).2.2).2)
theorem and255 : ∀ k : Fin 1000, bits .and .i64 (k.val : Int) 255 = (k.val : Int) % 256 := by decide +kernel
set_option maxHeartbeats 2000000 in
theorem below_calls (m : Int) (hm0 : 0 < m) (hm1 : m ≤ 1000) (l : List Int) (hl : ∀ x ∈ l, 0 ≤ x ∧ x < 256) (hn : l.length ≤ 140737488355328) {w0 W : World} {g : Nat} {A : Option Addr} {c : Nat} {p e : Int} (hr : Kd.C (Kd.int .u8) w0 A l.length l) (hc : l.length ≤ c)
    (h : Rd w0 W g A c l.length p e) (hp0 : 0 ≤ p) (hp1 : p ≤ l.length) :
    Calls Tryd.prog 38 #[.pointer (some ⟨g, 0, none⟩), .int .i64 m] W fun r W' => r = .returned (.int .i64 (belowF m l p e).1) ∧ Rd w0 W' g A c l.length (belowF m l p e).2.1 (belowF m l p e).2.2 ∧ Oth g W W' := by
  have H := Aside0.mk h
  have HL := Aside0.mk hl
  have HR := Aside0.mk hr
  clear h hl hr
  by_cases hw : 256 < m
  · have hwb : decide (256 < m) = true := decide_eq_true hw
    obtain ⟨h1, hh1⟩ : ∃ v, v = eachF (boundF ((m - 1) / 256)) 0 l p e := ⟨_, rfl⟩
    have hB : belowF m l p e = (h1.1 * 256 + (eachF (boundF (if h1.1 = (m - 1) / 256 then (m - 1) % 256 else 255)) 0 l h1.2.1 h1.2.2).1, (eachF (boundF (if h1.1 = (m - 1) / 256 then (m - 1) % 256 else 255)) 0 l h1.2.1 h1.2.2).2) := by
      unfold belowF; rw [if_neg (by omega), ← hh1]
    obtain ⟨lw, hlw⟩ : ∃ v, v = (if h1.1 = (m - 1) / 256 then (m - 1) % 256 else 255) := ⟨_, rfl⟩
    rw [← hlw] at hB
    have hr1 := eachF_range (boundF ((m - 1) / 256)) 0 l p e (fun L _ _ => boundF_range _ L) hp0 hp1
    have hv1 := eachB_val ((m - 1) / 256) l p e HL.out
    rw [← hh1] at hr1 hv1
    obtain ⟨hx, hp, he⟩ := h1
    simp only at *
    obtain ⟨h2, hh2⟩ : ∃ v, v = eachF (boundF lw) 0 l hp he := ⟨_, rfl⟩
    rw [← hh2] at hB
    have hv2 := eachB_val lw l hp he HL.out
    rw [← hh2] at hv2
    obtain ⟨lx, lp, le⟩ := h2
    simp only at *
    rw [hB]
    have HB := Aside0.mk hB
    have HH1 := Aside0.mk hh1
    have HH2 := Aside0.mk hh2
    have HLW := Aside0.mk hlw
    obtain ⟨a1, a2⟩ := hr1
    obtain ⟨b1, b2, b3⟩ := hv1
    obtain ⟨d1, d2, d3⟩ := hv2
    have b4 := b3 (by omega)
    clear hB hh1 hh2 hlw b3 d3
    have s8 : wrap64 (m - 1) = m - 1 := by unfold wrap64; omega
    go_enter Tryd.func38, Tryd.ntmps38
    go_wp2_with (fail)
    refine (wide_calls _ _).mono ?_
    rw [hwb]
    rintro r W1 ⟨rfl, rfl⟩
    go_wp2_with (fail)
    refine Calls.mono (by have t_ := eachI_calls ((m - 1) / 256) l HL.out hn HR.out hc H.out hp0 hp1; rw [← HH1.out] at t_; exact t_) ?_
    rintro r W2 ⟨rfl, h2, o2⟩
    have H2 := Aside0.mk h2
    have O2 := Aside0.mk o2
    clear h2 o2
    have hand : bits .and .i64 (m - 1) 255 = (m - 1) % 256 := by
      obtain ⟨k, hk⟩ := Int.eq_ofNat_of_zero_le (show 0 ≤ m - 1 by omega)
      have := and255 ⟨k, by omega⟩
      rw [hk]; exact this
    have hshl : wrap64 (hx * 256) = hx * 256 := by unfold wrap64; omega
    have hadd : wrap64 (hx * 256 + lx) = hx * 256 + lx := by unfold wrap64; omega
    by_cases hxe : hx = (m - 1) / 256
    · have hxb : (hx == (m - 1) / 256) = true := by simpa using hxe
      have hlw : lw = (m - 1) % 256 := by rw [HLW.out, if_pos hxe]
      clear hxe
      go_wp2_with (fail)
      refine Calls.mono (by have t_ := eachI_calls lw l HL.out hn HR.out hc H2.out a1 a2; rw [← HH2.out, hlw] at t_; exact t_) ?_
      rintro r W3 ⟨rfl, h3, o3⟩
      have H3 := Aside0.mk h3
      have O3 := Aside0.mk o3
      clear h3 o3
      go_wp2
      go_ret
      exact ⟨rfl, H3.out, O2.out.trans O3.out⟩
    · have hxb : (hx == (m - 1) / 256) = false := by simpa using hxe
      have hlw : lw = 255 := by rw [HLW.out, if_neg hxe]
      clear hand hxe
      go_wp2_with (fail)
      refine Calls.mono (by have t_ := eachI_calls lw l HL.out hn HR.out hc H2.out a1 a2; rw [← HH2.out, hlw] at t_; exact t_) ?_
      rintro r W3 ⟨rfl, h3, o3⟩
      have H3 := Aside0.mk h3
      have O3 := Aside0.mk o3
      clear h3 o3
      go_wp2
      go_ret
      exact ⟨rfl, H3.out, O2.out.trans O3.out⟩
  · have hwb : decide (256 < m) = false := decide_eq_false hw
    have hB : belowF m l p e = eachF (boundF (m - 1)) 0 l p e := by unfold belowF; rw [if_pos (by omega)]
    rw [hB]
    go_enter Tryd.func38, Tryd.ntmps38
    go_wp2_with (fail)
    refine (wide_calls _ _).mono ?_
    rw [hwb]
    rintro r W1 ⟨rfl, rfl⟩
    go_wp2_with (fail)
    refine (eachI_calls (m - 1) l HL.out hn HR.out hc H.out hp0 hp1).mono ?_
    rintro r W2 ⟨rfl, h2, o2⟩
    have H2 := Aside0.mk h2
    have O2 := Aside0.mk o2
    clear h2 o2
    go_wp2
    go_ret
    exact ⟨rfl, H2.out, O2.out⟩
/-- An event's fetch. -/
def idF (k : Int) (l : List Int) (p e : Int) : Int × Int × Int :=
  if k = 1 ∨ k = 2 then eachF (boundF 0) 0 l p e
  else if (eachF (gl 0 0) 0 l p e).2.2 = 0 ∧ (eachF (gl 0 0) 0 l p e).1 = 0 then (0, p, 3) else eachF (gl 0 0) 0 l p e
theorem eachG_val (l : List Int) (p e : Int) (hl : ∀ x ∈ l, 0 ≤ x ∧ x < 256) : 0 ≤ (eachF (gl 0 0) 0 l p e).1 := by
  have h := gl_nat (l.drop p.toNat) (fun x hx => hl x (List.mem_of_mem_drop hx))
  unfold eachF
  split
  · split
    · exact (h (by assumption)).1
    · simp
  · simp
set_option maxHeartbeats 2000000 in
theorem id_calls (k : Int) (l : List Int) (hl : ∀ x ∈ l, 0 ≤ x ∧ x < 256) (hn : l.length ≤ 140737488355328) {w0 W : World} {g : Nat} {A : Option Addr} {c : Nat} {p e : Int} (hr : Kd.C (Kd.int .u8) w0 A l.length l) (hc : l.length ≤ c)
    (h : Rd w0 W g A c l.length p e) (hp0 : 0 ≤ p) (hp1 : p ≤ l.length) :
    Calls Tryd.prog 35 #[.pointer (some ⟨g, 0, none⟩), .int .i64 k] W fun r W' => r = .returned (.int .u64 (idF k l p e).1) ∧ Rd w0 W' g A c l.length (idF k l p e).2.1 (idF k l p e).2.2 ∧ Oth g W W' := by
  have H := Aside0.mk h
  have HL := Aside0.mk hl
  have HR := Aside0.mk hr
  have k1 := h.c1
  clear h hl hr
  by_cases hk : k = 1 ∨ k = 2
  · have hkb : (decide (k = 1) || decide (k = 2)) = true := by simpa using hk
    have hB : idF k l p e = eachF (boundF 0) 0 l p e := by unfold idF; rw [if_pos hk]
    have hv := eachB_val 0 l p e HL.out
    rw [hB]
    obtain ⟨h1, hh1⟩ : ∃ v, v = eachF (boundF 0) 0 l p e := ⟨_, rfl⟩
    rw [← hh1] at hv ⊢
    obtain ⟨ix, ip, ie⟩ := h1
    obtain ⟨v1, v2, v3⟩ := hv
    have hx0 : ix = 0 := by have := v3 (by omega); simp only at *; omega
    subst hx0
    have HH1 := Aside0.mk hh1
    clear hh1 hB v1 v2 v3 hk
    go_enter Tryd.func35, Tryd.ntmps35
    go_wp2_with (fail)
    refine (alone_calls _ _).mono ?_
    rw [hkb]
    rintro r W1 ⟨rfl, rfl⟩
    go_wp2_with (fail)
    refine Calls.mono (by have t_ := eachI_calls 0 l HL.out hn HR.out hc H.out hp0 hp1; rw [← HH1.out] at t_; exact t_) ?_
    rintro r W2 ⟨rfl, h2, o2⟩
    have H2 := Aside0.mk h2
    have O2 := Aside0.mk o2
    clear h2 o2
    go_wp2
    go_ret
    exact ⟨rfl, H2.out, O2.out⟩
  · have hkb : (decide (k = 1) || decide (k = 2)) = false := by simpa using hk
    have hv := eachG_val l p e HL.out
    obtain ⟨h1, hh1⟩ : ∃ v, v = eachF (gl 0 0) 0 l p e := ⟨_, rfl⟩
    have hB : idF k l p e = if h1.2.2 = 0 ∧ h1.1 = 0 then (0, p, 3) else h1 := by unfold idF; rw [if_neg hk, ← hh1]
    rw [hB]
    rw [← hh1] at hv
    obtain ⟨ix, ip, ie⟩ := h1
    have HH1 := Aside0.mk hh1
    simp only at hv ⊢
    clear hh1 hB hk
    go_enter Tryd.func35, Tryd.ntmps35
    go_wp2_with (fail)
    refine (alone_calls _ _).mono ?_
    rw [hkb]
    rintro r W1 ⟨rfl, rfl⟩
    go_wp2_with (fail)
    refine Calls.mono (by have t_ := eachU_calls l HL.out hn HR.out hc H.out hp0 hp1; rw [← HH1.out] at t_; exact t_) ?_
    rintro r W2 ⟨rfl, h2, o2⟩
    have H2 := Aside0.mk h2
    have O2 := Aside0.mk o2
    have j2 := h2.c2
    clear h2 o2
    by_cases hc1 : ie = 0 ∧ ix = 0
    · obtain ⟨rfl, rfl⟩ := hc1
      go_wp2_with (fail)
      refine (fail_calls p 3 H2.out).mono ?_
      rintro r W3 ⟨⟨v, rfl⟩, h3, o3⟩
      have H3 := Aside0.mk h3
      have O3 := Aside0.mk o3
      clear h3 o3
      go_wp2
      go_ret
      exact ⟨rfl, (by simpa using H3.out), O2.out.trans O3.out⟩
    · have hne : ie ≠ 0 ∨ (ie = 0 ∧ ix ≠ 0) := by omega
      rcases hne with hne | ⟨rfl, hne⟩
      · have hb1 : (ie == 0) = false := by simpa using hne
        go_wp2
        go_ret
        first
          | exact ⟨rfl, H2.out, O2.out⟩
          | (rw [if_neg hc1]; exact ⟨rfl, H2.out, O2.out⟩)
          | (simp only [if_neg hc1]; exact ⟨rfl, H2.out, O2.out⟩)
      · have hb1 : (ix == 0) = false := by simpa using hne
        go_wp2
        go_ret
        first
          | exact ⟨rfl, H2.out, O2.out⟩
          | (rw [if_neg hc1]; exact ⟨rfl, H2.out, O2.out⟩)
          | (simp only [if_neg hc1]; exact ⟨rfl, H2.out, O2.out⟩)
end Go.Proofs.YtmlhlcdamppbfaaDoor.Ext
