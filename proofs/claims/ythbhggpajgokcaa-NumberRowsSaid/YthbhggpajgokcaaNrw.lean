/- NumberRows, by hand: numbers and texts one behind the other. -/
import Derived.Test.YthbhggpajgokcaaNumQ
import Derived.Deep.RegionHeld3
namespace Go.Proofs.Ythbhggpajgokcaa.Ext
open Go.RowKit Go.Proofs.Ythbhggpajgokcaa.Xa Go.Proofs.Ythbhggpajgokcaa.Pure Go.Proofs.YthbhggpajgokcaaW.PrintWords Go.Proofs.YthbhggpajgokcaaW.PrintLast Go.Proofs.YthbhggpajgokcaaW.PrintMore
set_option linter.unusedVariables false
set_option linter.unusedSimpArgs false
def mn2 (a b : Int) : Int := if b < a then b else a
theorem min2_mn (k k' : IntKind) (x y : Int) : Builtin.min2 (.int k x) (.int k' y) = pure (.int k (mn2 x y)) := by rw [min2_int]; rfl
attribute [local go_sem] min2_mn max_two min_two max_three min_three
/-- How many bytes of a text. -/
def cutN (S : ByteArray) : Nat := if 200 < S.size then 200 else S.size
def txN (s : List ByteArray) (k : Nat) : ByteArray := (rdOf ByteArray.empty s (k : Int)).extract 0 (cutN (rdOf ByteArray.empty s (k : Int)))
/-- A number and a text. -/
def tB (T : ByteArray) : List Int := put T.size ++ bytesOf T
def itN (l : List Int) (s : List ByteArray) (k : Nat) : List Int := put (rd l (k : Int)).toNat ++ tB (txN s k)
/-- So many from a place on. -/
def encN (l : List Int) (s : List ByteArray) : Nat → Nat → List Int
  | _, 0 => []
  | k, m + 1 => itN l s k ++ encN l s (k + 1) m
theorem encN_snoc (l : List Int) (s : List ByteArray) : ∀ (m k : Nat), encN l s k (m + 1) = encN l s k m ++ itN l s (k + m)
  | 0, k => by show itN l s k ++ [] = [] ++ itN l s (k + 0); simp
  | m + 1, k => by
    show itN l s k ++ encN l s (k + 1) (m + 1) = (itN l s k ++ encN l s (k + 1) m) ++ _
    rw [encN_snoc l s m (k + 1), List.append_assoc, show k + 1 + m = k + (m + 1) by omega]
theorem txN_le (s : List ByteArray) (k : Nat) : (txN s k).size ≤ 200 := by
  unfold txN cutN; rw [ByteArray.size_extract]; split <;> omega
theorem itN_len (l : List Int) (s : List ByteArray) (k : Nat) (h : 0 ≤ rd l (k : Int) ∧ rd l (k : Int) < 18446744073709551616) : (itN l s k).length ≤ 300 := by
  unfold itN tB
  have h1 := put_len10 (rd l (k : Int)).toNat (by omega)
  have h2 := txN_le s k
  have h3 := put_len10 (txN s k).size (by omega)
  rw [List.length_append, List.length_append, bytesOf_len]; omega
theorem encN_len (l : List Int) (s : List ByteArray) (h : ∀ k : Nat, 0 ≤ rd l (k : Int) ∧ rd l (k : Int) < 18446744073709551616) : ∀ (m k : Nat), (encN l s k m).length ≤ 300 * m
  | 0, k => by show ([] : List Int).length ≤ _; simp
  | m + 1, k => by
    show (itN l s k ++ encN l s (k + 1) m).length ≤ _
    have h1 := itN_len l s k (h k)
    have h2 := encN_len l s h m (k + 1)
    rw [List.length_append]; omega
theorem tB_bytes (T : ByteArray) : Bytes (tB T) := (put_bytes _).append (bytesOf_bytes T)
theorem encN_bytes (l : List Int) (s : List ByteArray) : ∀ (m k : Nat), Bytes (encN l s k m)
  | 0, k => fun x hx => by simp [encN] at hx
  | m + 1, k => ((put_bytes _).append (tB_bytes _)).append (encN_bytes l s m (k + 1))
theorem rd_bounds {l : List Int} (h : ∀ x ∈ l, (Lit.int .u64 x).wf = true) (k : Nat) : 0 ≤ rd l (k : Int) ∧ rd l (k : Int) < 18446744073709551616 := by
  unfold rd
  rw [Int.toNat_natCast, List.getD_eq_getElem?_getD]
  rcases Nat.lt_or_ge k l.length with hk | hk
  · rw [List.getElem?_eq_getElem hk]; exact u64_bounds (h _ (List.getElem_mem hk))
  · rw [List.getElem?_eq_none hk]; simp
theorem cutN_mn (S : ByteArray) : mn2 (S.size : Int) 200 = (cutN S : Int) := by unfold mn2 cutN; split <;> split <;> omega
theorem cutN_le (S : ByteArray) : cutN S ≤ S.size := by unfold cutN; split <;> omega
theorem below_cell {w W : World} {ad : Addr} {v : Value} (hb : Below w.heap.size w W) (h : w.cell? ad = some v) : W.cell? ad = some v := pw_cell_below hb h
set_option maxHeartbeats 4000000 in
set_option maxRecDepth 100000 in
theorem rows_calls (A0 : Option Addr) (c0 : Nat) (l : List Int) (A1 : Option Addr) (c1 : Nat) (s : List ByteArray) (w : World) (hC0 : Kd.C (Kd.int .u64) w A0 l.length l) (hC1 : Kd.C Kd.string w A1 s.length s) (hw : ∀ x ∈ l, (Lit.int .u64 x).wf = true) :
    Calls Try.prog 9 #[.slice A0 l.length c0, .slice A1 s.length c1] w fun e w' => e = .returned (.bool true) ∧ Below w.heap.size w w' := by
  have hB := rd_bounds hw
  obtain ⟨n, hn⟩ : ∃ n : Nat, n = min (min l.length s.length) 10 := ⟨_, rfl⟩
  obtain ⟨p, hp⟩ : ∃ p : Nat, p = min l.length s.length := ⟨_, rfl⟩
  have HN := Aside0.mk (show n ≤ l.length ∧ n ≤ s.length ∧ n ≤ 10 by omega)
  have HB := Aside0.mk hB
  have HC0 := Aside0.mk hC0
  have HC1 := Aside0.mk hC1
  have hm1 : mn2 (l.length : Int) (s.length : Int) = (p : Int) := by unfold mn2; split <;> omega
  have hm2 : mn2 (p : Int) 10 = (n : Int) := by unfold mn2; split <;> omega
  clear hB hC0 hC1 hw hn hp
  go_enter Try.func9, Try.ntmps9
  go_wp2_with (fail)
  refine (transeptlaw01_shown.calls 20 true _ Pure.shown20).mono ?_
  rintro e w1 ⟨rfl, hb1⟩
  have HB1 := Aside0.mk hb1
  clear hb1
  go_wp2_with (first | ((with_reducible refine gate_dst (N := 22) rfl ?_); refine Kd.R_lit (Kd.int .u8) _ 5 ?hg (N := 22) ?hd (xs := ([] : List Int)) (inner := []) (ok := fun _ => True) (okp := fun _ => True) ?hr ?hp (fun _ hk => hk) trivial (Below.refl _ _) (Nat.le_refl _) (by simp) ?_; (case hd => rfl); (case hg => rfl); (case hr => first | (go_simp; done) | (go_simp; rfl)); (case hp => exact (Reps.none _ _)); intro v7 w2 hv7 hb2 hg_ hnew_; have HR2 := Aside0.mk (Kd.R_lower hv7 HB1.out.size); have HB2 := Aside0.mk (HB1.out.trans (hb2.mono HB1.out.size)); clear hv7 hb2 hg_ hnew_))
  clear hm1 hm2
  go_loopg [7, 8] n (fun gm v7 v8 w' => ∃ k : Nat, v8 = .int .i64 k ∧ k + gm = n ∧ Aside0 (Kd.R (Kd.int .u8) 5 w' w.heap.size (fun _ => True) v7 (encN l s 0 k)) ∧ Aside0 (Below w.heap.size w w'))
  case atStart => exact ⟨0, rfl, by omega, HR2, HB2⟩
  case round =>
    obtain ⟨k, rfl, hk, HR, HBr⟩ := hrel
    clear HR2 HB2
    by_cases hlt : k < n
    · have d1 : decide ((k : Int) < (n : Int)) = true := by simp only [decide_eq_true_eq]; omega
      have n1 : n ≤ l.length := HN.out.1
      have n2 : n ≤ s.length := HN.out.2.1
      have n3 : n ≤ 10 := HN.out.2.2
      obtain ⟨ad0, rfl, hx0⟩ := Kd.at_int HC0.out (k : Int) (by omega) (by omega)
      obtain ⟨ad1, rfl, hx1⟩ := Kd.at_string HC1.out (k : Int) (by omega) (by omega)
      obtain ⟨x, hx⟩ : ∃ x, rd l (k : Int) = x := ⟨_, rfl⟩
      obtain ⟨S, hS⟩ : ∃ S, rdOf ByteArray.empty s (k : Int) = S := ⟨_, rfl⟩
      obtain ⟨m, hm⟩ : ∃ m, cutN S = m := ⟨_, rfl⟩
      have hmn := cutN_mn S
      have hml := cutN_le S
      rw [hm] at hmn hml
      rw [Int.toNat_natCast] at hx0 hx1
      have hbx := HB.out k
      rw [hx] at hx0 hbx
      rw [hS] at hx1
      have HS := Aside0.mk (fun (W' : World) (hb : Below w.heap.size w W') => And.intro (below_cell hb hx0) (below_cell hb hx1))
      have hit : itN l s k = put x.toNat ++ (put (S.extract 0 m).size ++ bytesOf (S.extract 0 m)) := by
        unfold itN tB txN; rw [hx, hS, hm]
      have HIT := Aside0.mk hit
      have hT : (S.extract 0 m).size ≤ 200 := by have := txN_le s k; unfold txN at this; rw [hS, hm] at this; exact this
      have hel := encN_len l s HB.out k 0
      have HF1 := Aside0.mk (put_f 20 (encN l s 0 k) x hbx.1 hbx.2 (by omega) (by omega))
      have hpl := put_len10 x.toNat (by omega)
      have HF2 := Aside0.mk (putText_f 20 (S.extract 0 m) (by omega) (by omega) (encN l s 0 k ++ put x.toNat) (by rw [List.length_append]; omega))
      have i0 : (0 : Int) ≤ (k : Int) := by omega
      have i1 : (k : Int) < (l.length : Int) := by omega
      have i2 : (k : Int) < (s.length : Int) := by omega
      clear hx hS hm hx0 hx1 hbx hit hT hel hpl
      go_wp2
      go_region_held3 (fun W' => W'.cell? (ad0.add k) = some (.int .u64 x) ∧ W'.cell? (ad1.add k) = some (.string S)) (first | exact HS.out _ (below_drew HBr.out) | exact HS.out _ HBr.out | exact HS.out _ HB3.out | exact HS.out _ HB4.out) (first | (have z_ := HR3; clear z_; go_at_call 16; refine (number_PutText.calls 20 (fun _ => True) _ _ _ _ w _ HB3.out HR3.out HF2.out).mono ?_; rintro e w4 ⟨v4, rfl, hr4, hb4, _⟩; have HR4 := Aside0.mk (Kd.R_mono hr4 (fun _ _ => trivial)); have HB4 := Aside0.mk hb4; clear hr4 hb4) | (go_at_call 15; refine (number_Put.calls 20 (fun _ => True) _ _ _ _ w _ (below_drew HBr.out) (Kd.R_drew HR.out) HF1.out).mono ?_; rintro e w3 ⟨v3, rfl, hr3, hb3, _⟩; have HR3 := Aside0.mk (Kd.R_mono hr3 (fun _ _ => trivial)); have HB3 := Aside0.mk hb3; clear hr3 hb3))
      all_goals
        go_wp2_with (fail)
        go_roundg (gk - 1)
        case measure => omega
        case rel => exact ⟨k + 1, by go_num, by omega, ⟨by rw [encN_snoc, Nat.zero_add, HIT.out, ← List.append_assoc, ← List.append_assoc]; exact HR4.out⟩, HB4⟩
    · obtain rfl : k = n := by omega
      have d1 : decide ((k : Int) < (k : Int)) = false := by simp
      obtain ⟨A7, c7, rfl, hc7, hC7⟩ := Kd.R_reads HR.out
      have HC7 := Aside0.mk hC7
      have HL7 := Aside0.mk hc7
      clear hC7 hc7 HR
      go_wp2
      go_loopg [7, 9] k (fun gm v7 v9 w' => ∃ (i : Nat) (A : Option Addr) (c : Nat) (M : List Int), v9 = .int .i64 i ∧ i + gm = k ∧ v7 = .slice A M.length c ∧ Aside0 (M = encN l s i gm) ∧ Aside0 (M.length ≤ c) ∧ Aside0 (Kd.C (Kd.int .u8) w' A M.length M) ∧ Aside0 (Below w.heap.size w w'))
      case atStart => exact ⟨0, A7, c7, _, rfl, by omega, rfl, ⟨rfl⟩, HL7, HC7, HBr⟩
      case round =>
        obtain ⟨i, A, c, M, rfl, hi, rfl, HM, HL, HC, HBr⟩ := hrel
        clear HL7 HC7
        by_cases hlt : i < k
        · have d2 : decide ((i : Int) < (k : Int)) = true := by simp only [decide_eq_true_eq]; omega
          have n1 : k ≤ l.length := HN.out.1
          have n2 : k ≤ s.length := HN.out.2.1
          have n3 : k ≤ 10 := HN.out.2.2
          obtain ⟨q, rfl⟩ : ∃ q, gk = q + 1 := ⟨gk - 1, by omega⟩
          obtain ⟨ad0, rfl, hx0⟩ := Kd.at_int HC0.out (i : Int) (by omega) (by omega)
          obtain ⟨ad1, rfl, hx1⟩ := Kd.at_string HC1.out (i : Int) (by omega) (by omega)
          obtain ⟨x, hx⟩ : ∃ x, rd l (i : Int) = x := ⟨_, rfl⟩
          obtain ⟨S, hS⟩ : ∃ S, rdOf ByteArray.empty s (i : Int) = S := ⟨_, rfl⟩
          obtain ⟨m, hm⟩ : ∃ m, cutN S = m := ⟨_, rfl⟩
          have hmn := cutN_mn S
          have hml := cutN_le S
          rw [hm] at hmn hml
          rw [Int.toNat_natCast] at hx0 hx1
          have hbx := HB.out i
          rw [hx] at hx0 hbx
          rw [hS] at hx1
          have hT : (S.extract 0 m).size ≤ 200 := by have := txN_le s i; unfold txN at this; rw [hS, hm] at this; exact this
          obtain ⟨T, hTT⟩ : ∃ T, S.extract 0 m = T := ⟨_, rfl⟩
          obtain ⟨R, hR⟩ : ∃ R, R = encN l s (i + 1) q := ⟨_, rfl⟩
          have hit : M = put x.toNat ++ (tB T ++ R) := by
            rw [HM.out]; show itN l s i ++ _ = _; unfold itN txN; rw [hx, hS, hm, hTT, ← hR, List.append_assoc]
          have hRl : R.length ≤ 300 * q := by rw [hR]; exact encN_len l s HB.out q (i + 1)
          have hRB : Bytes R := by rw [hR]; exact encN_bytes l s q (i + 1)
          have hpl := put_len10 x.toNat (by omega)
          rw [hTT] at hT
          have htl : (tB T).length ≤ 210 := by
            unfold tB; have := put_len10 T.size (by omega); rw [List.length_append, bytesOf_len]; omega
          obtain ⟨P, hP⟩ : ∃ P, P = (put x.toNat).length := ⟨_, rfl⟩
          obtain ⟨Q, hQ⟩ : ∃ Q, Q = (tB T).length := ⟨_, rfl⟩
          obtain ⟨L2, hL2⟩ : ∃ L2, L2 = tB T ++ R := ⟨_, rfl⟩
          have hMB : Bytes M := by rw [HM.out]; exact encN_bytes l s (q + 1) i
          have hMl : M.length = P + L2.length := by rw [hit, List.length_append, hL2, hP]
          have hLl : L2.length = Q + R.length := by rw [hL2, List.length_append, hQ]
          have hg1 : number_Get.f M = some (x, (P : Int), 0) := by
            rw [get_f M hMB (by omega), hit, get_put x.toNat _ (by omega), hP, Int.toNat_of_nonneg hbx.1]
          have hg2 : number_Text.f 20 L2 200 = some (T, (Q : Int), 0) := by
            rw [hL2, hQ]; exact text_ok 20 (by omega) T R hRB hT (by omega)
          have hdr1 : M.drop P = L2 := by rw [hit, hP, List.drop_left, hL2]
          have hdr2 : L2.drop Q = R := by rw [hL2, hQ, List.drop_left]
          obtain ⟨i0_, hinf, hzz⟩ := Option.map_eq_some_iff.1 info5
          simp only [Prod.mk.injEq] at hzz
          obtain ⟨A2, hA2⟩ : ∃ A2, A2 = (if c = P then A else A.map (·.add (P * 1))) := ⟨_, rfl⟩
          obtain ⟨c2, hc2⟩ : ∃ c2, c2 = c - P := ⟨_, rfl⟩
          have cut1 : ∀ W : World, (Instr.slice 22 (.slice A M.length c) (some (.int .i64 (P : Int))) none none).run Try.prog W = .ok (.slice A2 L2.length c2) W := by
            intro W
            rw [cut_from 22 5 .i64 Try.underlying22 hinf 1 hzz.2.1 A M.length c (P : Int) (by omega) (by omega) W, Int.toNat_natCast, hA2, hc2, show M.length - P = L2.length by omega]
          have hC2 : Kd.C (Kd.int .u8) wr A2 L2.length L2 := by
            have h_ := Kd.C_drop (m := P) HC.out (by omega) HL.out
            rw [hdr1] at h_; rw [hA2]; exact h_
          have hc2l : L2.length ≤ c2 := by have := HL.out; omega
          obtain ⟨A3, hA3⟩ : ∃ A3, A3 = (if c2 = Q then A2 else A2.map (·.add (Q * 1))) := ⟨_, rfl⟩
          obtain ⟨c3, hc3⟩ : ∃ c3, c3 = c2 - Q := ⟨_, rfl⟩
          have cut2 : ∀ W : World, (Instr.slice 22 (.slice A2 L2.length c2) (some (.int .i64 (Q : Int))) none none).run Try.prog W = .ok (.slice A3 R.length c3) W := by
            intro W
            rw [cut_from 22 5 .i64 Try.underlying22 hinf 1 hzz.2.1 A2 L2.length c2 (Q : Int) (by omega) (by omega) W, Int.toNat_natCast, hA3, hc3, show L2.length - Q = R.length by omega]
          have hC3 : Kd.C (Kd.int .u8) wr A3 R.length R := by
            have h_ := Kd.C_drop (m := Q) hC2 (by omega) hc2l
            rw [hdr2] at h_; rw [hA3]; exact h_
          have hc3l : R.length ≤ c3 := by omega
          have hi0 : (0 : Int) ≤ (i : Int) := by omega
          have hi1 : (i : Int) < (l.length : Int) := by omega
          have hi2 : (i : Int) < (s.length : Int) := by omega
          have HX0 := Aside0.mk (fun (W' : World) (hb : Below w.heap.size w W') => below_cell hb hx0)
          have HX1 := Aside0.mk (fun (W' : World) (hb : Below w.heap.size w W') => below_cell hb hx1)
          have HG1 := Aside0.mk hg1
          have HG2 := Aside0.mk hg2
          have HC2 := Aside0.mk hC2
          have HC3 := Aside0.mk hC3
          have HL2 := Aside0.mk hc2l
          have HL3 := Aside0.mk hc3l
          have HRR := Aside0.mk hR
          clear hx hS hm hx0 hx1 hbx hT hR hit hRl hRB hpl htl hP hQ hL2 hMB hMl hLl hg1 hg2 hdr1 hdr2 hinf hzz hA2 hc2 hC2 hc2l hA3 hc3 hC3 hc3l
          go_wp2_with (fail)
          refine (number_Get.calls A c M _ _ _ wr HC.out HL.out HG1.out).mono ?_
          rintro e w5 ⟨rfl, hb5⟩
          have HB5 := Aside0.mk (below_step HBr.out hb5)
          have HC2b := Aside0.mk (Kd.C_below HC2.out hb5)
          have HC3b := Aside0.mk (Kd.C_below HC3.out hb5)
          have hx0 := HX0.out w5 HB5.out
          clear hb5
          go_wp2_with (fail)
          refine (number_Text.calls 20 A2 c2 L2 200 _ _ _ w5 HC2b.out HL2.out HG2.out).mono ?_
          rintro e w6 ⟨rfl, hb6⟩
          have HB6 := Aside0.mk (below_step HB5.out hb6)
          have HC3c := Aside0.mk (Kd.C_below HC3b.out hb6)
          have hx1 := HX1.out w6 HB6.out
          clear hb6 hx0
          go_wp2_with (fail)
          go_quiet (fail)
          go_wp2_with (fail)
          go_roundg q
          case measure => omega
          case rel => exact ⟨i + 1, A3, c3, R, by go_num, by omega, rfl, HRR, HL3, ⟨Kd.C_drewN HC3c.out _⟩, ⟨pw_below_drewN HB6.out _⟩⟩
        · obtain rfl : i = k := by omega
          obtain rfl : gk = 0 := by omega
          obtain rfl : M = [] := HM.out
          have d2 : decide ((i : Int) < (i : Int)) = false := by simp
          go_wp2_with (fail)
          go_ret
          exact ⟨rfl, HBr.out⟩
end Go.Proofs.Ythbhggpajgokcaa.Ext
namespace Go.Proofs.Ythbhggpajgokcaa.Xa
open Go.RowKit Go.Proofs.Ythbhggpajgokcaa.Ext Go.Proofs.YthbhggpajgokcaaW.PrintWords Go.Proofs.YthbhggpajgokcaaW.PrintLast
end Go.Proofs.Ythbhggpajgokcaa.Xa
