/- The contract of crc.More, by hand, over any world that holds the table. -/
import Derived.Test.YtojagnoobaleaaaDoorProg
import Derived.Lib.Hide
import Derived.Test.YtojagnoobaleaaaDoorCrcM
import Derived.Test.YtojagnoobaleaaaDoorWWords
import Derived.Test.YtojagnoobaleaaaDoorWLast
import Derived.Test.YtojagnoobaleaaaDoorWMore
namespace Go.Proofs.YtojagnoobaleaaaDoor.Ext
open Go.RowKit Go.Proofs.YtojagnoobaleaaaDoorW.PrintWords Go.Proofs.YtojagnoobaleaaaDoorW.PrintLast Go.Proofs.YtojagnoobaleaaaDoorW.PrintMore
set_option linter.unusedVariables false

/-- The world holds the table. -/
def Glob (w : World) : Prop := ∀ j, j < 16 → w.cell? ⟨0, j, none⟩ = some (.int .u32 (tab.getD j 0))
theorem Glob.below {w w1 : World} (h : Glob w) (hb : Below w.heap.size w w1) : Glob w1 := fun j hj => pw_cell_below hb (h j hj)
theorem Glob.alloc {w : World} (h : Glob w) (o : Obj) : Glob (w.alloc o) := h.below (below_alloc (Below.refl _ _) o)
theorem Glob.drewN {w : World} (h : Glob w) (n : Nat) : Glob (w.drewN n) := h
theorem Glob.drew {w : World} (h : Glob w) : Glob w.drew := h
theorem Glob.cell {w : World} (h : Glob w) (i : BitVec 32) (hi : i.toNat < 16) : w.cell? ⟨0, (B i).toNat, none⟩ = some (.int .u32 (B (T i))) := by rw [show (B i).toNat = i.toNat from rfl, h _ hi, tab_T i hi]

theorem notB (x : BitVec 32) : bits .xor .u32 IntKind.u32.max (B x) = B (~~~ x) := by
  have h : IntKind.u32.max = B (BitVec.allOnes 32) := by decide
  rw [h, xorB, BitVec.allOnes_xor]

set_option maxHeartbeats 1000000 in
theorem more_calls (a : BitVec 32) (A1 : Option Addr) (c1 : Nat) (l1 : List Int) (w : World) (hG : Glob w) (hr : Kd.C (Kd.int .u8) w A1 l1.length l1) (hl : ∀ x ∈ l1, 0 ≤ x ∧ x < 256) (hn : l1.length ≤ 140737488355328) :
    Calls Tryd.prog 42 #[.int .u32 (B a), .slice A1 l1.length c1] w fun e w' => e = .returned (.int .u32 (B (~~~ (run (~~~ a) l1)))) ∧ Drawn0 w w' := by
  have HG := Aside0.mk hG
  have HL := Aside0.mk hl
  clear hG hl
  have ha := B_range a
  go_enter Tryd.func42, Tryd.ntmps42
  go_wp2
  go_loopg [5, 12] l1.length (fun m v5 v12 wr => ∃ (k : Nat), v12 = .int .i64 k ∧ v5 = .int .u32 (B (run (~~~ a) (l1.take k))) ∧ k + m = l1.length ∧ Aside0 (Drawn0 w wr))
  case atStart => exact ⟨0, rfl, congrArg (Value.int .u32) (by rw [notB]; rfl), by omega, ⟨Drawn0.refl _⟩⟩
  case round =>
    obtain ⟨k, rfl, rfl, hk, HD⟩ := hrel
    by_cases hlt : k < l1.length
    · obtain ⟨ad, rfl, hx0⟩ := Kd.at_int hr k (by omega) (by omega)
      obtain ⟨x, hxd⟩ : ∃ x, x = rd l1 k := ⟨_, rfl⟩
      have hx1 : wr.cell? (ad.add k) = some (.int .u8 x) := by rw [hxd]; exact pw_cell_below HD.out.below hx0
      have hmem : rd l1 k ∈ l1 := by unfold rd; rw [show (k : Int).toNat = k from rfl, List.getD_eq_getElem?_getD, List.getElem?_eq_getElem hlt]; exact List.getElem_mem hlt
      have hrx := HL.out _ hmem
      rw [← hxd] at hrx
      have HX := Aside0.mk hxd
      have HR := Aside0.mk hr
      clear hxd hmem hx0 hr
      have hbx := Aside0.mk (byteB x hrx.1 hrx.2)
      obtain ⟨c, hc⟩ : ∃ c, c = run (~~~ a) (l1.take k) := ⟨_, rfl⟩
      have HC := Aside0.mk hc
      rw [← hc]
      clear hc
      go_wp2
      obtain ⟨wo, hwo⟩ : ∃ wo : World, wo = wr := ⟨_, rfl⟩
      subst hwo
      go_loopg [5, 20] 2 (fun m v5 v20 wq => ∃ (j : Nat) (d : BitVec 32), v20 = .int .i64 j ∧ v5 = .int .u32 (B d) ∧ j + m = 2 ∧ Aside0 (j = 0 ∧ d = c ^^^ BitVec.ofInt 32 x ∨ j = 1 ∧ d = half (c ^^^ BitVec.ofInt 32 x) ∨ j = 2 ∧ d = byte c x) ∧ wq = wo)
      case atStart => exact ⟨0, c ^^^ BitVec.ofInt 32 x, rfl, congrArg (Value.int .u32) (by rw [← xorB, B_ofInt x hrx.1 (by omega)]), by omega, ⟨.inl ⟨rfl, rfl⟩⟩, rfl⟩
      case round =>
        obtain ⟨j, d, rfl, rfl, hj, HJ, rfl⟩ := hrel
        have hgl := (HG.out.below HD.out.below).cell (d &&& 15#32) (by rw [BitVec.toNat_and]; exact Nat.lt_of_le_of_lt Nat.and_le_right (by decide))
        by_cases hj2 : j < 2
        · have e15 := and15 d
          have hi0 := (B_range (d &&& 15#32)).1
          have hi1 : B (d &&& 15#32) < 16 := by
            unfold B; rw [BitVec.toNat_and]; have : d.toNat &&& (15#32).toNat ≤ 15 := Nat.and_le_right; omega
          go_wp2
          go_roundg (gk - 1)
          case measure => omega
          case rel =>
            refine ⟨j + 1, half d, by go_num, congrArg (Value.int .u32) ?_, by omega, ⟨?_⟩, rfl⟩
            · rw [shr4, xorB]; rfl
            · rcases HJ.out with ⟨rfl, rfl⟩ | ⟨rfl, rfl⟩ | ⟨rfl, rfl⟩
              · exact .inr (.inl ⟨rfl, rfl⟩)
              · exact .inr (.inr ⟨rfl, rfl⟩)
              · omega
        · have hd : Aside0 (d = byte c x) := by
            rcases HJ.out with ⟨rfl, rfl⟩ | ⟨rfl, rfl⟩ | ⟨rfl, rfl⟩
            · omega
            · omega
            · exact ⟨rfl⟩
          obtain rfl : j = 2 := by omega
          go_wp2
          go_roundg (l1.length - (k + 1))
          case measure => omega
          case rel =>
            refine ⟨k + 1, by go_num, congrArg (Value.int .u32) (congrArg B ?_), by omega, HD⟩
            rw [hd.out, HC.out, HX.out, ← run_snoc]
            congr 1
            rw [List.take_succ_eq_append_getElem hlt]; unfold rd
            rw [show (k : Int).toNat = k from rfl, List.getD_eq_getElem?_getD, List.getElem?_eq_getElem hlt]; rfl
    · obtain rfl : k = l1.length := by omega
      go_wp2
      go_ret
      refine ⟨?_, HD.out⟩
      rw [List.take_length] at *
      exact congrArg (fun z => Ending.returned (.int .u32 z)) (notB _)
/-- What More answers, of bytes that are bytes. -/
def crc_More.f (a0 : Int) (l1 : List Int) : Option Int := if decide (0 ≤ a0) && decide (a0 < 4294967296) && l1.all (fun x => decide (0 ≤ x) && decide (x < 256)) && decide (l1.length ≤ 140737488355328) then some (more a0 l1) else none
theorem crc_More.calls (a0 : Int) (A1 : Option Addr) (c1 : Nat) (l1 : List Int) (r : Int) (w : World) (hG : Glob w) (hr1 : Kd.C (Kd.int .u8) w A1 l1.length l1) (hc1 : l1.length ≤ c1) (h : crc_More.f a0 l1 = some r) :
    Calls Tryd.prog 42 #[.int .u32 a0, .slice A1 l1.length c1] w fun e w' => e = .returned (.int .u32 r) ∧ Drawn0 w w' := by
  unfold crc_More.f at h
  split at h
  case isFalse => simp at h
  case isTrue hh =>
    simp only [Bool.and_eq_true, List.all_eq_true, decide_eq_true_eq] at hh
    obtain ⟨⟨⟨h0, h1⟩, hl⟩, hn⟩ := hh
    obtain rfl := Option.some.inj h
    have hm := more_calls (BitVec.ofInt 32 a0) A1 c1 l1 w hG hr1 hl hn
    rw [B_ofInt a0 h0 h1] at hm
    exact hm
end Go.Proofs.YtojagnoobaleaaaDoor.Ext
