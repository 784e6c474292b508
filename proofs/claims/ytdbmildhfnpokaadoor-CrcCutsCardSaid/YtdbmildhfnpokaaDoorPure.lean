/- Plain facts that the pure statements of this seat share. -/
import Derived.Test.YtdbmildhfnpokaaDoorShown
import Derived.Test.YtdbmildhfnpokaaDoorCrcT
namespace Go.Proofs.YtdbmildhfnpokaaDoor.Ext
open Go.RowKit Go.Proofs.YtdbmildhfnpokaaDoorW.PrintWords Go.Proofs.YtdbmildhfnpokaaDoorW.PrintLast

theorem u32_bounds {a : Int} (h : (Lit.int .u32 a).wf = true) : 0 ≤ a ∧ a < 4294967296 := by
  simp [Lit.wf, IntKind.min, IntKind.max, IntKind.bits, IntKind.signed] at h; omega
theorem u8_bounds {a : Int} (h : (Lit.int .u8 a).wf = true) : 0 ≤ a ∧ a < 256 := by
  simp [Lit.wf, IntKind.min, IntKind.max, IntKind.bits, IntKind.signed] at h; omega
theorem i64_bounds {a : Int} (h : (Lit.int .i64 a).wf = true) : -9223372036854775808 ≤ a ∧ a < 9223372036854775808 := by
  simp [Lit.wf, IntKind.min, IntKind.max, IntKind.bits, IntKind.signed] at h; omega
def Bytes (l : List Int) : Prop := ∀ x ∈ l, 0 ≤ x ∧ x < 256
theorem bytes_wf {l : List Int} (h : ∀ x ∈ l, (Lit.int .u8 x).wf = true) : Bytes l := fun x hx => u8_bounds (h x hx)
theorem Bytes.take {l : List Int} (h : Bytes l) (n : Nat) : Bytes (l.take n) := fun x hx => h x (List.mem_of_mem_take hx)
theorem Bytes.drop {l : List Int} (h : Bytes l) (n : Nat) : Bytes (l.drop n) := fun x hx => h x (List.mem_of_mem_drop hx)
theorem Bytes.append {l m : List Int} (h : Bytes l) (k : Bytes m) : Bytes (l ++ m) := fun x hx => (List.mem_append.1 hx).elim (h x) (k x)
theorem Bytes.set {l : List Int} (h : Bytes l) (n : Nat) {x : Int} (hx : 0 ≤ x ∧ x < 256) : Bytes (l.set n x) := fun y hy => by
  rcases List.mem_or_eq_of_mem_set hy with hy | rfl
  · exact h y hy
  · exact hx
theorem rd_bytes {l : List Int} (h : Bytes l) (i : Int) : 0 ≤ rd l i ∧ rd l i < 256 := by
  unfold rd
  rw [List.getD_eq_getElem?_getD]
  by_cases hi : i.toNat < l.length
  · rw [List.getElem?_eq_getElem hi]; exact h _ (List.getElem_mem hi)
  · rw [List.getElem?_eq_none (by omega)]; simp
theorem more_f (a : Int) (l : List Int) (h0 : 0 ≤ a) (h1 : a < 4294967296) (hl : Bytes l) (hn : l.length ≤ 140737488355328) : crc_More.f a l = some (more a l) := by
  unfold crc_More.f
  rw [if_pos]
  simp only [Bool.and_eq_true, List.all_eq_true, decide_eq_true_eq]
  exact ⟨⟨⟨h0, h1⟩, hl⟩, hn⟩
theorem more_four (a b : Int) (hb0 : 0 ≤ b) (hb : b < 4294967296) : more a (four b) = B (~~~ (L4 (~~~ (BitVec.ofInt 32 a) ^^^ BitVec.ofInt 32 b))) := by
  unfold more; rw [run_four _ b hb0 hb]
theorem mn_le (a b : Int) : mn a b ≤ a ∧ mn a b ≤ b ∧ (mn a b = a ∨ mn a b = b) := by unfold mn; split <;> omega
theorem and_range (a : Int) : 0 ≤ bits .and .i64 a 65535 ∧ bits .and .i64 a 65535 ≤ 65535 := by
  simp only [bits]
  have h : ((BitVec.ofInt IntKind.i64.bits a &&& BitVec.ofInt IntKind.i64.bits 65535).toNat) ≤ 65535 := by
    rw [BitVec.toNat_and]
    exact Nat.le_trans Nat.and_le_right (by decide)
  generalize (BitVec.ofInt IntKind.i64.bits a &&& BitVec.ofInt IntKind.i64.bits 65535).toNat = n at *
  rw [IntKind.wrap_i64]; omega
theorem tmod_range (a b : Int) (ha : 0 ≤ a) (hb : 0 < b) : 0 ≤ Int.tmod a b ∧ Int.tmod a b < b := by
  rw [Int.tmod_eq_emod_of_nonneg ha]
  exact ⟨Int.emod_nonneg _ (by omega), Int.emod_lt_of_pos _ hb⟩
theorem w64 (n : Int) (h0 : -9223372036854775808 ≤ n) (h1 : n < 9223372036854775808) : wrap64 n = n := by unfold wrap64; omega
theorem sum_f (l : List Int) (hl : Bytes l) (hn : l.length ≤ 140737488355328) : (crc_More.f 0 l).bind (fun t => some t) = some (more 0 l) := by rw [more_f 0 l (by omega) (by omega) hl hn]; rfl
/-- A list with two elements side by side, at a place. -/
theorem two_at (l : List Int) (k : Nat) (h : k + 1 < l.length) : ∃ p v w q, l = p ++ v :: w :: q ∧ p.length = k := by
  refine ⟨l.take k, l[k], l[k + 1], l.drop (k + 2), ?_, by rw [List.length_take]; omega⟩
  rw [← List.drop_eq_getElem_cons (by omega : k + 1 < l.length), ← List.drop_eq_getElem_cons (by omega : k < l.length), List.take_append_drop]
theorem rd_mid (p : List Int) (v : Int) (q : List Int) (i : Int) (h : i = p.length) : rd (p ++ v :: q) i = v := by
  subst h; unfold rd; simp
end Go.Proofs.YtdbmildhfnpokaaDoor.Ext
