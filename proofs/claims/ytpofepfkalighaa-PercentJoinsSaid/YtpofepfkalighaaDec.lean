/- The contract of percent.Decode, by hand. -/
import Derived.Test.YtpofepfkalighaaEnc
namespace Go.Proofs.Ytpofepfkalighaa.Ext
open Go.BigFrame Go.RowKit Go.Proofs.YtpofepfkalighaaW.PrintWords Go.Proofs.YtpofepfkalighaaW.PrintMore
set_option linter.unusedVariables false

/-- What a text is decoded to. -/
def decL : List UInt8 → List UInt8
  | [] => []
  | [c] => [c]
  | [c, a] => [c, a]
  | c :: a :: b :: r => if c = 37 ∧ 0 ≤ val a.toNat ∧ 0 ≤ val b.toNat then (val a.toNat * 16 + val b.toNat).toNat.toUInt8 :: decL r else c :: decL (a :: b :: r)
theorem decL_cons (c : UInt8) (r : List UInt8) (h : ∀ a b q, r = a :: b :: q → ¬(c = 37 ∧ 0 ≤ val a.toNat ∧ 0 ≤ val b.toNat)) : decL (c :: r) = c :: decL r := by
  match r, h with
  | [], _ => rfl
  | [a], _ => rfl
  | a :: b :: q, h => rw [decL, if_neg (h a b q rfl)]
theorem decL_len : ∀ l : List UInt8, (decL l).length ≤ l.length
  | [] => by simp [decL]
  | [c] => by simp [decL]
  | [c, a] => by simp [decL]
  | c :: a :: b :: r => by
    rw [decL]
    split
    · have := decL_len r; simp only [List.length_cons]; omega
    · have := decL_len (a :: b :: r); simp only [List.length_cons] at *; omega
theorem val_small (c : Int) (h0 : 0 ≤ c) (h1 : c < 256) : val c < 16 := by
  obtain ⟨n, rfl⟩ := Int.eq_ofNat_of_zero_le h0
  have h : ∀ k : Fin 256, val (k.val : Int) < 16 := by decide +kernel
  exact h ⟨n, by omega⟩
theorem or16 (p q : Nat) (hp : p < 16) (hq : q < 16) : bits .or .i64 ((p : Int) * 16) (q : Int) = ((p * 16 + q : Nat) : Int) := by
  have h : ∀ a b : Fin 16, bits .or .i64 ((a.val : Int) * 16) (b.val : Int) = ((a.val * 16 + b.val : Nat) : Int) := by decide +kernel
  exact h ⟨p, hp⟩ ⟨q, hq⟩
theorem drop_byte (s : ByteArray) (i : Nat) (h : i < s.size) : s.data.toList.drop i = s[i] :: s.data.toList.drop (i + 1) := by
  rw [List.drop_eq_getElem_cons (show i < s.data.toList.length from h)]
  rfl
set_option maxHeartbeats 8000000 in
set_option maxRecDepth 100000 in
theorem decode_calls (s : ByteArray) (hs : s.size ≤ 35184372088832) (w : World) :
    Calls Try.prog 15 #[.string s] w fun e w' => e = .returned (.string ⟨(decL s.data.toList).toArray⟩) ∧ Below w.heap.size w w' := by
  go_enter Try.func15, Try.ntmps15
  go_wp2_with (fail)
  go_loopg [4] s.size (fun k v4 w' => ∃ (i : Nat) (acc : List UInt8), v4 = .int .i64 (i : Int) ∧ i + k = s.size ∧ Aside0 (acc ++ decL (s.data.toList.drop i) = decL s.data.toList) ∧ acc.length ≤ i ∧ Aside0 (Lib.IsBuilder 40 5 w.heap.size w.heap.size (Lib.byteCells acc) w') ∧ Aside0 (Below w.heap.size w w'))
  case atStart => exact ⟨0, [], rfl, by omega, ⟨rfl⟩, by simp, ⟨Lib.fresh_isBuilder 40 5 w⟩, ⟨below_alloc (Below.refl _ _) _⟩⟩
  case round =>
    obtain ⟨i, acc, rfl, hi, HA, hacc, HI, HBw⟩ := hrel
    have hb0 := isB_lt HI.out
    by_cases hlt : i < s.size
    · have hdrop := Aside0.mk (drop_byte s i hlt)
      have hx0 : (0 : Int) ≤ (s[i].toNat : Int) := by omega
      have hx1 : (s[i].toNat : Int) < 256 := by have := s[i].toNat_lt; omega
      by_cases hc : s[i] = 37
      · have hcn : (s[i].toNat : Int) = 37 := by rw [hc]; rfl
        by_cases h2 : i + 2 < s.size
        · have hdrop1 := Aside0.mk (drop_byte s (i + 1) (by omega))
          have hdrop2 := Aside0.mk (drop_byte s (i + 2) h2)
          have hg2 : decide ((i : Int) + 2 < (s.size : Int)) = true := by simp; omega
          have h1 : i + 1 < s.size := by omega
          have j10 : (0 : Int) ≤ (i : Int) + 1 := by omega
          have j11 : (i : Int) + 1 < (s.size : Int) := by omega
          have j20 : (0 : Int) ≤ (i : Int) + 2 := by omega
          have j21 : (i : Int) + 2 < (s.size : Int) := by omega
          have b10 : (0 : Int) ≤ (s[i + 1].toNat : Int) := by omega
          have b11 : (s[i + 1].toNat : Int) < 256 := by have := s[i + 1].toNat_lt; omega
          have b20 : (0 : Int) ≤ (s[i + 2].toNat : Int) := by omega
          have b21 : (s[i + 2].toNat : Int) < 256 := by have := s[i + 2].toNat_lt; omega
          go_wp2_with (fail)
          refine wp_region_quiet_lit (by kernel_rfl) (by kernel_rfl) ?_
          repeat (go_big_quiet_step (fail))
          go_big_quiet_want
          go_big_quiet_op
          go_big_quiet_call ((go_at_call 23; refine (value_calls _ _ b10 b11).mono ?_; rintro e w' ⟨rfl, rfl⟩; exact ⟨rfl, _, rfl⟩))
          repeat (go_big_quiet_step (fail))
          go_big_quiet_want
          go_big_quiet_op
          go_big_quiet_call ((go_at_call 23; refine (value_calls _ _ b20 b21).mono ?_; rintro e w' ⟨rfl, rfl⟩; exact ⟨rfl, _, rfl⟩))
          repeat (go_big_quiet_step (fail))
          refine wpQuiet_nil ?_
          intro _ hw'
          obtain ⟨nq, hw''⟩ := hw'
          subst hw''
          obtain ⟨p, hp⟩ : ∃ p : Int, val s[i + 1].toNat = p := ⟨_, rfl⟩
          obtain ⟨q, hq⟩ : ∃ q : Int, val s[i + 2].toNat = q := ⟨_, rfl⟩
          rw [hp, hq]
          have P1 := val_small _ b10 b11
          have P2 := val_small _ b20 b21
          rw [hp] at P1
          rw [hq] at P2
          have HP := Aside0.mk hp
          have HQ := Aside0.mk hq
          clear hp hq
          by_cases p0 : 0 ≤ p
          · by_cases q0 : 0 ≤ q
            · obtain ⟨p, rfl⟩ := Int.eq_ofNat_of_zero_le p0
              obtain ⟨q, rfl⟩ := Int.eq_ofNat_of_zero_le q0
              obtain ⟨r, hr⟩ : ∃ r : Nat, r = p * 16 + q := ⟨_, rfl⟩
              have hor : bits .or .i64 ((p : Int) * 16) (q : Int) = (r : Int) := by rw [or16 p q (by omega) (by omega), hr]
              have hr1 : r < 256 := by omega
              have HR := Aside0.mk hr
              clear hr
              go_wp2_with (fail)
              refine (writeByte w.heap.size w.heap.size _ _ _ (isB_drewN HI.out _) (by rw [Lib.byteCells_length]; omega) (by simp; omega)).mono ?_
              rintro e W3 ⟨rfl, h3, b3⟩
              go_wp2_with (fail)
              go_roundg (s.size - (i + 3))
              case measure => omega
              case rel =>
                refine ⟨i + 3, acc ++ [((p : Int) * 16 + q).toNat.toUInt8], by go_num, by omega, ⟨?_⟩, by simp; omega, ⟨.inr ?_⟩, ⟨(pw_below_drewN HBw.out _).trans b3⟩⟩
                · have h := HA.out
                  rw [hdrop.out, hdrop1.out, hdrop2.out, decL, if_pos ⟨hc, by rw [HP.out]; exact p0, by rw [HQ.out]; exact q0⟩, HP.out, HQ.out] at h
                  rw [List.append_assoc]; exact h
                · have hv : ((((p : Int) * 16 + q).toNat.toUInt8).toNat : Int) = (r : Int) := by
                    have := HR.out
                    rw [show ((p : Int) * 16 + q).toNat = r by omega]
                    show ((UInt8.ofNat r).toNat : Int) = r
                    rw [UInt8.toNat_ofNat']; omega
                  rw [byteCells_app, show ∀ z : UInt8, Lib.byteCells [z] = [.int .u8 z.toNat] from fun z => rfl, hv]
                  exact h3
            · have q1 : decide (0 ≤ q) = false := by simp; omega
              have p1 : decide (0 ≤ p) = true := by simp; omega
              go_wp2_with (fail)
              have hp := HP.out
              have hq := HQ.out
              refine (writeByte w.heap.size w.heap.size _ _ _ (isB_drewN HI.out _) (by rw [Lib.byteCells_length]; omega) (by simp; omega)).mono ?_
              rintro e W3 ⟨rfl, h3, b3⟩
              go_wp2_with (fail)
              go_roundg (s.size - (i + 1))
              case measure => omega
              case rel =>
                refine ⟨i + 1, acc ++ [s[i]], by go_num, by omega, ⟨?_⟩, by simp; omega, ⟨.inr ?_⟩, ⟨(pw_below_drewN HBw.out _).trans b3⟩⟩
                · have h := HA.out
                  rw [hdrop.out, decL_cons _ _ (fun a b z hz hh => by
                    rw [hdrop1.out, hdrop2.out] at hz
                    obtain ⟨e1, hz⟩ := List.cons.inj hz
                    obtain ⟨e2, _⟩ := List.cons.inj hz
                    rw [← e1, ← e2, hp, hq] at hh
                    exact absurd hh.2.2 (by omega))] at h
                  rw [List.append_assoc]; exact h
                · rw [byteCells_app, show Lib.byteCells [s[i]] = [.int .u8 37] from by rw [hc]; rfl]; exact h3
          · have p1 : decide (0 ≤ p) = false := by simp; omega
            go_wp2_with (fail)
            have hp := HP.out
            have hq := HQ.out
            refine (writeByte w.heap.size w.heap.size _ _ _ (isB_drewN HI.out _) (by rw [Lib.byteCells_length]; omega) (by simp; omega)).mono ?_
            rintro e W3 ⟨rfl, h3, b3⟩
            go_wp2_with (fail)
            go_roundg (s.size - (i + 1))
            case measure => omega
            case rel =>
              refine ⟨i + 1, acc ++ [s[i]], by go_num, by omega, ⟨?_⟩, by simp; omega, ⟨.inr ?_⟩, ⟨(pw_below_drewN HBw.out _).trans b3⟩⟩
              · have h := HA.out
                rw [hdrop.out, decL_cons _ _ (fun a b z hz hh => by
                  rw [hdrop1.out, hdrop2.out] at hz
                  obtain ⟨e1, hz⟩ := List.cons.inj hz
                  obtain ⟨e2, _⟩ := List.cons.inj hz
                  rw [← e1, ← e2, hp, hq] at hh
                  exact absurd hh.2.1 (by omega))] at h
                rw [List.append_assoc]; exact h
              · rw [byteCells_app, show Lib.byteCells [s[i]] = [.int .u8 37] from by rw [hc]; rfl]; exact h3
        · have hg2 : decide ((i : Int) + 2 < (s.size : Int)) = false := by simp; omega
          go_wp2_with (fail)
          refine (writeByte w.heap.size w.heap.size _ _ _ HI.out (by rw [Lib.byteCells_length]; omega) (by omega)).mono ?_
          rintro e W3 ⟨rfl, h3, b3⟩
          go_wp2_with (fail)
          go_roundg (s.size - (i + 1))
          case measure => omega
          case rel =>
            refine ⟨i + 1, acc ++ [s[i]], by go_num, by omega, ⟨?_⟩, by simp; omega, ⟨.inr ?_⟩, ⟨HBw.out.trans b3⟩⟩
            · have h := HA.out
              rw [hdrop.out, decL_cons _ _ (fun a b q hq => absurd (congrArg List.length hq) (by rw [List.length_drop]; simp only [List.length_cons]; have : s.data.toList.length = s.size := rfl; omega))] at h
              rw [List.append_assoc]; exact h
            · rw [byteCells_app]; rw [show Lib.byteCells [s[i]] = [.int .u8 37] from by rw [hc]; rfl]; exact h3
      · have hcn : ((s[i].toNat : Int) == 37) = false := by
          rw [beq_eq_false_iff_ne]; intro h; exact hc (UInt8.toNat_inj.1 (by have : s[i].toNat = 37 := by omega
                                                                             rw [this]; rfl))
        go_wp2_with (fail)
        refine (writeByte w.heap.size w.heap.size _ _ _ HI.out (by rw [Lib.byteCells_length]; omega) (by omega)).mono ?_
        rintro e W3 ⟨rfl, h3, b3⟩
        go_wp2_with (fail)
        go_roundg (s.size - (i + 1))
        case measure => omega
        case rel =>
          refine ⟨i + 1, acc ++ [s[i]], by go_num, by omega, ⟨?_⟩, by simp; omega, ⟨.inr ?_⟩, ⟨HBw.out.trans b3⟩⟩
          · have h := HA.out
            rw [hdrop.out, decL_cons _ _ (fun a b q _ h => hc h.1)] at h
            rw [List.append_assoc]; exact h
          · rw [byteCells_app]; exact h3
    · have hE : i = s.size := by omega
      go_wp2_with (fail)
      refine (Try.Builder_String_any w.heap.size w.heap.size _ _ HI.out (by omega)).mono ?_
      rintro e W3 ⟨rfl, b3⟩
      go_wp2_with (fail)
      go_ret
      refine ⟨?_, HBw.out.trans b3⟩
      have h := HA.out
      rw [List.drop_eq_nil_of_le (show s.data.toList.length ≤ i from by rw [hE]; exact Nat.le_refl _)] at h
      simp only [decL, List.append_nil] at h
      rw [h]
      rfl
end Go.Proofs.Ytpofepfkalighaa.Ext
