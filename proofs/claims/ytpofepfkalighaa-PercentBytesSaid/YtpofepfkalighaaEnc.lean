/- The contract of percent.Encode, by hand. -/
import Derived.Test.YtpofepfkalighaaIn
import Derived.Test.YtpofepfkalighaaBld
import Derived.Deep.RegionHeld3
namespace Go.Proofs.Ytpofepfkalighaa.Ext
open Go.RowKit Go.Proofs.YtpofepfkalighaaW.PrintWords Go.Proofs.YtpofepfkalighaaW.PrintMore
set_option linter.unusedVariables false

def hex (n : Int) : Int := if n < 10 then 48 + n else 55 + n
/-- What a byte is encoded as. -/
def enc1 (n : Int) (c : UInt8) : List UInt8 := if inSet n c.toNat then [37, (hex (c.toNat / 16)).toNat.toUInt8, (hex (c.toNat % 16)).toNat.toUInt8] else [c]
def encL (n : Int) (l : List UInt8) : List UInt8 := l.flatMap (enc1 n)
theorem enc1_len (n : Int) (c : UInt8) : (enc1 n c).length ≤ 3 := by unfold enc1; split <;> simp
theorem encL_len (n : Int) : ∀ l : List UInt8, (encL n l).length ≤ 3 * l.length
  | [] => by simp [encL]
  | c :: l => by
    have h1 := enc1_len n c
    have h2 := encL_len n l
    unfold encL at *
    rw [List.flatMap_cons, List.length_append, List.length_cons]; omega
theorem encL_snoc (n : Int) (l : List UInt8) (c : UInt8) : encL n (l ++ [c]) = encL n l ++ enc1 n c := by simp [encL]
theorem and15 (x : Int) (h0 : 0 ≤ x) (h1 : x < 256) : bits .and .u8 x 15 = x % 16 := by
  obtain ⟨n, rfl⟩ := Int.eq_ofNat_of_zero_le h0
  have h : ∀ k : Fin 256, bits .and .u8 (k.val : Int) 15 = (k.val : Int) % 16 := by decide +kernel
  exact h ⟨n, by omega⟩
theorem isB_drewN {B b : Nat} {bs : List Value} {w : World} (h : Lib.IsBuilder 40 5 B b bs w) (n : Nat) : Lib.IsBuilder 40 5 B b bs (w.drewN n) := h
theorem isB_alloc {B b : Nat} {bs : List Value} {w : World} (h : Lib.IsBuilder 40 5 B b bs w) (o : Obj) : Lib.IsBuilder 40 5 B b bs (w.alloc o) := by
  rcases h with ⟨hB, v, hb, hown, hne⟩ | ⟨hB, v, hb, hown, hne⟩
  · exact .inl ⟨hB, v, blk_alloc hb o, hown.alloc o, hne⟩
  · exact .inr ⟨hB, v, blk_alloc hb o, hown.alloc o, hne⟩
theorem isB_lt {B b : Nat} {bs : List Value} {w : World} (h : Lib.IsBuilder 40 5 B b bs w) : b < w.heap.size := by
  rcases h with h | h <;> exact h.lt
theorem byteCells_app (l m : List UInt8) : Lib.byteCells (l ++ m) = Lib.byteCells l ++ Lib.byteCells m := by simp [Lib.byteCells]
theorem byteCells3 (a b c : UInt8) : Lib.byteCells [a, b, c] = [.int .u8 a.toNat, .int .u8 b.toNat, .int .u8 c.toNat] := rfl
theorem dig (a : Nat) (h : a < 16) : (({ data := #[48, 49, 50, 51, 52, 53, 54, 55, 56, 57, 65, 66, 67, 68, 69, 70] } : ByteArray)[a]'h).toNat = ((hex (a : Int)).toNat.toUInt8).toNat := by
  have hh : ∀ k : Fin 16, (({ data := #[48, 49, 50, 51, 52, 53, 54, 55, 56, 57, 65, 66, 67, 68, 69, 70] } : ByteArray)[k.val]'k.isLt).toNat = ((hex (k.val : Int)).toNat.toUInt8).toNat := by decide +kernel
  exact hh ⟨a, h⟩
theorem enc1_true (n : Int) (c : UInt8) (h : inSet n c.toNat = true) : enc1 n c = [37, (hex (c.toNat / 16)).toNat.toUInt8, (hex (c.toNat % 16)).toNat.toUInt8] := by unfold enc1; rw [if_pos h]
theorem enc1_false (n : Int) (c : UInt8) (h : inSet n c.toNat = false) : enc1 n c = [c] := by unfold enc1; rw [if_neg (by simp [h])]
theorem take_byte (s : ByteArray) (i : Nat) (h : i < s.size) : s.data.toList.take (i + 1) = s.data.toList.take i ++ [s[i]] := by
  rw [List.take_succ_eq_append_getElem (show i < s.data.toList.length from h)]
  rfl
theorem field34v {w : World} {n : Int} {v : Value} (h : IsSet w n v) (W : World) : (Instr.field 34 (.agg #[v]) 0).run Try.prog W = .ok v W := by
  rcases h with ⟨rfl, _⟩ | ⟨g, h, m, rfl, _⟩ | ⟨g, h, m, g0, h0, m0, rfl, _⟩ | ⟨rfl, _⟩
  · exact field34a W
  · exact field34b W g h
  · exact field34b W g h
  · exact field34c W
set_option maxHeartbeats 8000000 in
set_option maxRecDepth 100000 in
theorem encode_calls (n : Int) (s : ByteArray) (hs : s.size ≤ 35184372088832) (w : World) :
    Calls Try.prog 13 #[.int .i64 n, .string s] w fun e w' => e = .returned (.string ⟨(encL n s.data.toList).toArray⟩) ∧ Below w.heap.size w w' := by
  go_enter Try.func13, Try.ntmps13
  go_wp2_with (fail)
  refine (sets_calls n _).mono ?_
  rintro e w1 ⟨v, rfl, hv, hb⟩
  have HB := Aside0.mk hb
  have HV := Aside0.mk hv
  have hf := field34v hv w1
  clear hb hv
  go_wp2_with (fail)
  go_loopg [14] s.size (fun k v14 w' => ∃ i : Nat, v14 = .int .i64 (i : Int) ∧ i + k = s.size ∧ Aside0 (Lib.IsBuilder 40 5 w1.heap.size w1.heap.size (Lib.byteCells (encL n (s.data.toList.take i))) w') ∧ Aside0 (Below w1.heap.size w1 w'))
  case atStart => exact ⟨0, rfl, by omega, ⟨by have h := Lib.fresh_isBuilder 40 5 w1; simpa [encL, Lib.byteCells] using h⟩, ⟨below_alloc (Below.refl _ _) _⟩⟩
  case round =>
    obtain ⟨i, rfl, hi, HI, HBw⟩ := hrel
    by_cases hlt : i < s.size
    · obtain ⟨c, hc⟩ : ∃ c : UInt8, c = s[i] := ⟨_, rfl⟩
      have HC := Aside0.mk hc
      have hx0 : (0 : Int) ≤ (c.toNat : Int) := by omega
      have hx1 : (c.toNat : Int) < 256 := by have := c.toNat_lt; omega
      clear hf
      rw [hc] at hx0 hx1
      clear hc
      have hb0 := isB_lt HI.out
      have HT := Aside0.mk (take_byte s i hlt)
      have hle := encL_len n (s.data.toList.take i)
      have hle2 : (s.data.toList.take i).length ≤ s.size := by rw [List.length_take]; omega
      have hwv := HV.out.below HBw.out
      rcases hwv with ⟨rfl, hv⟩ | ⟨g, h, m, rfl, k0, k1, hv⟩ | ⟨g, h, m, g0, h0, m0, rfl, k0, k1, k2, k3, hv⟩ | ⟨rfl, hv⟩
      · have hV := Aside0.mk (hv s[i].toNat)
        clear hv
        simp only [f25]
        go_wp2_with (fail)
        refine (lam25 _ _).mono ?_
        rintro e w2 ⟨rfl, ⟨d, rfl⟩⟩
        rw [← hV.out]
        cases hin : inSet n s[i].toNat with
        | true =>
          have HE := Aside0.mk (enc1_true n s[i] hin)
          obtain ⟨x, hx⟩ : ∃ x : Int, (s[i].toNat : Int) = x := ⟨_, rfl⟩
          simp only [hx] at *
          obtain ⟨a, ha⟩ : ∃ a : Nat, x / 16 = (a : Int) := ⟨_, (Int.toNat_of_nonneg (by omega)).symm⟩
          obtain ⟨b, hb⟩ : ∃ b : Nat, x % 16 = (b : Int) := ⟨_, (Int.toNat_of_nonneg (by omega)).symm⟩
          have ha1 : a < 16 := by omega
          have hb1 : b < 16 := by omega
          have hb2 : bits .and .u8 x 15 = (b : Int) := by rw [and15 x hx0 hx1, hb]
          clear hx hin
          go_wp2_with (fail)
          go_region_held3 (fun _ => True) (trivial) (first | (go_at_call 19; refine (write3 w1.heap.size w1.heap.size _ wr.heap.size _ _ _ _ (isB_alloc (isB_drewN HI.out _) _) (blk_new _ _) (by omega) (by rw [Lib.byteCells_length]; omega) (by simp; omega)).mono ?_; rintro e W3 ⟨rfl, h3, b3⟩))
          all_goals (go_wp2_with (fail); (go_roundg (s.size - (i + 1))); (case measure => omega); (case rel => (refine ⟨i + 1, by go_num, by omega, ⟨.inr ?_⟩, ⟨(below_alloc (pw_below_drewN HBw.out _) _).trans b3⟩⟩; rw [HT.out, encL_snoc, HE.out, byteCells_app, byteCells3, ha, hb, ← dig a ha1, ← dig b hb1]; exact h3)))
        | false =>
          have HE := Aside0.mk (enc1_false n s[i] hin)
          clear hin
          go_wp2_with (fail)
          refine (writeByte w1.heap.size w1.heap.size _ _ _ (isB_drewN HI.out _) (by rw [Lib.byteCells_length]; omega) (by simp; omega)).mono ?_
          rintro e W3 ⟨rfl, h3, b3⟩
          go_wp2_with (fail)
          go_roundg (s.size - (i + 1))
          case measure => omega
          case rel =>
            refine ⟨i + 1, by go_num, by omega, ⟨.inr ?_⟩, ⟨(pw_below_drewN HBw.out _).trans b3⟩⟩
            rw [HT.out, encL_snoc, HE.out, byteCells_app]
            exact h3
      · have hV := Aside0.mk (hv s[i].toNat)
        clear hv
        simp only [fW]
        go_wp2_with (fail)
        refine (lamA _ m g h _ k0 k1).mono ?_
        rintro e w2 ⟨rfl, ⟨d, rfl⟩⟩
        rw [← hV.out]
        cases hin : inSet n s[i].toNat with
        | true =>
          have HE := Aside0.mk (enc1_true n s[i] hin)
          obtain ⟨x, hx⟩ : ∃ x : Int, (s[i].toNat : Int) = x := ⟨_, rfl⟩
          simp only [hx] at *
          obtain ⟨a, ha⟩ : ∃ a : Nat, x / 16 = (a : Int) := ⟨_, (Int.toNat_of_nonneg (by omega)).symm⟩
          obtain ⟨b, hb⟩ : ∃ b : Nat, x % 16 = (b : Int) := ⟨_, (Int.toNat_of_nonneg (by omega)).symm⟩
          have ha1 : a < 16 := by omega
          have hb1 : b < 16 := by omega
          have hb2 : bits .and .u8 x 15 = (b : Int) := by rw [and15 x hx0 hx1, hb]
          clear hx hin
          go_wp2_with (fail)
          go_region_held3 (fun _ => True) (trivial) (first | (go_at_call 19; refine (write3 w1.heap.size w1.heap.size _ wr.heap.size _ _ _ _ (isB_alloc (isB_drewN HI.out _) _) (blk_new _ _) (by omega) (by rw [Lib.byteCells_length]; omega) (by simp; omega)).mono ?_; rintro e W3 ⟨rfl, h3, b3⟩))
          all_goals (go_wp2_with (fail); (go_roundg (s.size - (i + 1))); (case measure => omega); (case rel => (refine ⟨i + 1, by go_num, by omega, ⟨.inr ?_⟩, ⟨(below_alloc (pw_below_drewN HBw.out _) _).trans b3⟩⟩; rw [HT.out, encL_snoc, HE.out, byteCells_app, byteCells3, ha, hb, ← dig a ha1, ← dig b hb1]; exact h3)))
        | false =>
          have HE := Aside0.mk (enc1_false n s[i] hin)
          clear hin
          go_wp2_with (fail)
          refine (writeByte w1.heap.size w1.heap.size _ _ _ (isB_drewN HI.out _) (by rw [Lib.byteCells_length]; omega) (by simp; omega)).mono ?_
          rintro e W3 ⟨rfl, h3, b3⟩
          go_wp2_with (fail)
          go_roundg (s.size - (i + 1))
          case measure => omega
          case rel =>
            refine ⟨i + 1, by go_num, by omega, ⟨.inr ?_⟩, ⟨(pw_below_drewN HBw.out _).trans b3⟩⟩
            rw [HT.out, encL_snoc, HE.out, byteCells_app]
            exact h3
      · have hV := Aside0.mk (hv s[i].toNat)
        clear hv
        simp only [fW]
        go_wp2_with (fail)
        refine (lamB _ m m0 g h g0 h0 _ k0 k1 k2 k3).mono ?_
        rintro e w2 ⟨rfl, ⟨d, rfl⟩⟩
        rw [← hV.out]
        cases hin : inSet n s[i].toNat with
        | true =>
          have HE := Aside0.mk (enc1_true n s[i] hin)
          obtain ⟨x, hx⟩ : ∃ x : Int, (s[i].toNat : Int) = x := ⟨_, rfl⟩
          simp only [hx] at *
          obtain ⟨a, ha⟩ : ∃ a : Nat, x / 16 = (a : Int) := ⟨_, (Int.toNat_of_nonneg (by omega)).symm⟩
          obtain ⟨b, hb⟩ : ∃ b : Nat, x % 16 = (b : Int) := ⟨_, (Int.toNat_of_nonneg (by omega)).symm⟩
          have ha1 : a < 16 := by omega
          have hb1 : b < 16 := by omega
          have hb2 : bits .and .u8 x 15 = (b : Int) := by rw [and15 x hx0 hx1, hb]
          clear hx hin
          go_wp2_with (fail)
          go_region_held3 (fun _ => True) (trivial) (first | (go_at_call 19; refine (write3 w1.heap.size w1.heap.size _ wr.heap.size _ _ _ _ (isB_alloc (isB_drewN HI.out _) _) (blk_new _ _) (by omega) (by rw [Lib.byteCells_length]; omega) (by simp; omega)).mono ?_; rintro e W3 ⟨rfl, h3, b3⟩))
          all_goals (go_wp2_with (fail); (go_roundg (s.size - (i + 1))); (case measure => omega); (case rel => (refine ⟨i + 1, by go_num, by omega, ⟨.inr ?_⟩, ⟨(below_alloc (pw_below_drewN HBw.out _) _).trans b3⟩⟩; rw [HT.out, encL_snoc, HE.out, byteCells_app, byteCells3, ha, hb, ← dig a ha1, ← dig b hb1]; exact h3)))
        | false =>
          have HE := Aside0.mk (enc1_false n s[i] hin)
          clear hin
          go_wp2_with (fail)
          refine (writeByte w1.heap.size w1.heap.size _ _ _ (isB_drewN HI.out _) (by rw [Lib.byteCells_length]; omega) (by simp; omega)).mono ?_
          rintro e W3 ⟨rfl, h3, b3⟩
          go_wp2_with (fail)
          go_roundg (s.size - (i + 1))
          case measure => omega
          case rel =>
            refine ⟨i + 1, by go_num, by omega, ⟨.inr ?_⟩, ⟨(pw_below_drewN HBw.out _).trans b3⟩⟩
            rw [HT.out, encL_snoc, HE.out, byteCells_app]
            exact h3
      · have hV := Aside0.mk (hv s[i].toNat)
        clear hv
        simp only [f27]
        go_wp2_with (fail)
        refine (lam27 _ _).mono ?_
        rintro e w2 ⟨rfl, ⟨d, rfl⟩⟩
        rw [← hV.out]
        cases hin : inSet n s[i].toNat with
        | true =>
          have HE := Aside0.mk (enc1_true n s[i] hin)
          obtain ⟨x, hx⟩ : ∃ x : Int, (s[i].toNat : Int) = x := ⟨_, rfl⟩
          simp only [hx] at *
          obtain ⟨a, ha⟩ : ∃ a : Nat, x / 16 = (a : Int) := ⟨_, (Int.toNat_of_nonneg (by omega)).symm⟩
          obtain ⟨b, hb⟩ : ∃ b : Nat, x % 16 = (b : Int) := ⟨_, (Int.toNat_of_nonneg (by omega)).symm⟩
          have ha1 : a < 16 := by omega
          have hb1 : b < 16 := by omega
          have hb2 : bits .and .u8 x 15 = (b : Int) := by rw [and15 x hx0 hx1, hb]
          clear hx hin
          go_wp2_with (fail)
          go_region_held3 (fun _ => True) (trivial) (first | (go_at_call 19; refine (write3 w1.heap.size w1.heap.size _ wr.heap.size _ _ _ _ (isB_alloc (isB_drewN HI.out _) _) (blk_new _ _) (by omega) (by rw [Lib.byteCells_length]; omega) (by simp; omega)).mono ?_; rintro e W3 ⟨rfl, h3, b3⟩))
          all_goals (go_wp2_with (fail); (go_roundg (s.size - (i + 1))); (case measure => omega); (case rel => (refine ⟨i + 1, by go_num, by omega, ⟨.inr ?_⟩, ⟨(below_alloc (pw_below_drewN HBw.out _) _).trans b3⟩⟩; rw [HT.out, encL_snoc, HE.out, byteCells_app, byteCells3, ha, hb, ← dig a ha1, ← dig b hb1]; exact h3)))
        | false =>
          have HE := Aside0.mk (enc1_false n s[i] hin)
          clear hin
          go_wp2_with (fail)
          refine (writeByte w1.heap.size w1.heap.size _ _ _ (isB_drewN HI.out _) (by rw [Lib.byteCells_length]; omega) (by simp; omega)).mono ?_
          rintro e W3 ⟨rfl, h3, b3⟩
          go_wp2_with (fail)
          go_roundg (s.size - (i + 1))
          case measure => omega
          case rel =>
            refine ⟨i + 1, by go_num, by omega, ⟨.inr ?_⟩, ⟨(pw_below_drewN HBw.out _).trans b3⟩⟩
            rw [HT.out, encL_snoc, HE.out, byteCells_app]
            exact h3
    · have hE : i = s.size := by omega
      have hb0 := isB_lt HI.out
      go_wp2_with (fail)
      refine (Try.Builder_String_any w1.heap.size w1.heap.size _ _ HI.out (by omega)).mono ?_
      rintro e W3 ⟨rfl, b3⟩
      go_wp2_with (fail)
      go_ret
      have HF := below_then HB.out HB.out.size (HBw.out.trans b3)
      refine ⟨?_, HF⟩
      rw [List.take_of_length_le (show s.data.toList.length ≤ s.size from Nat.le_refl _)]
      rfl
end Go.Proofs.Ytpofepfkalighaa.Ext
