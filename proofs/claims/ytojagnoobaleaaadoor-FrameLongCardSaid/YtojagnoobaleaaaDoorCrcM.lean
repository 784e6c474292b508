/- Plain facts on numbers of 32 bits as the walk spells them. -/
import Derived.Laws.BitsLemmas
import Derived.RowKit
namespace Go.Proofs.YtojagnoobaleaaaDoor.Ext

/-- A number of 32 bits as the walk has it. -/
def B (x : BitVec 32) : Int := x.toNat
theorem B_range (x : BitVec 32) : 0 ≤ B x ∧ B x < 4294967296 := by unfold B; have := x.isLt; omega
theorem B_inj {x y : BitVec 32} (h : B x = B y) : x = y := by unfold B at h; exact BitVec.eq_of_toNat_eq (by omega)
theorem ofInt_B (x : BitVec 32) : BitVec.ofInt 32 (B x) = x := by unfold B; simp
theorem B_ofInt (n : Int) (h0 : 0 ≤ n) (h1 : n < 4294967296) : B (BitVec.ofInt 32 n) = n := by
  unfold B; obtain ⟨m, rfl⟩ := Int.eq_ofNat_of_zero_le h0; simp; omega
theorem wrapB (n : Nat) (h : n < 4294967296) : IntKind.u32.wrap (n : Int) = n := by rw [IntKind.wrap_u32]; omega
theorem xorB (x y : BitVec 32) : bits .xor .u32 (B x) (B y) = B (x ^^^ y) := by
  simp only [bits]
  rw [show IntKind.u32.bits = 32 from rfl, ofInt_B, ofInt_B, wrapB _ (BitVec.isLt _)]; rfl
theorem andB (x y : BitVec 32) : bits .and .u32 (B x) (B y) = B (x &&& y) := by
  simp only [bits]
  rw [show IntKind.u32.bits = 32 from rfl, ofInt_B, ofInt_B, wrapB _ (BitVec.isLt _)]; rfl
theorem and15 (x : BitVec 32) : bits .and .u32 (B x) 15 = B (x &&& 15#32) := andB x 15#32
theorem shr4 (x : BitVec 32) : B x / (16 : Int) = B (x >>> 4) := by unfold B; simp [BitVec.toNat_ushiftRight, Nat.shiftRight_eq_div_pow]
theorem byteB (n : Int) (h0 : 0 ≤ n) (h1 : n < 256) : IntKind.u32.wrap n = B (BitVec.ofInt 32 n) := by
  rw [B_ofInt n h0 (by omega), IntKind.wrap_u32]; omega

/-- The table's numbers. -/
def tab : List Int := [0, 498536548, 997073096, 651767980, 1994146192, 1802195444, 1303535960, 1342533948, 3988292384, 4027552580, 3604390888, 3412177804, 2607071920, 2262029012, 2685067896, 3183342108]
def T (i : BitVec 32) : BitVec 32 := BitVec.ofInt 32 (tab.getD i.toNat 0)
theorem tab_T (i : BitVec 32) (h : i.toNat < 16) : tab.getD i.toNat 0 = B (T i) := by
  unfold T
  generalize i.toNat = n at h
  have : n = 0 ∨ n = 1 ∨ n = 2 ∨ n = 3 ∨ n = 4 ∨ n = 5 ∨ n = 6 ∨ n = 7 ∨ n = 8 ∨ n = 9 ∨ n = 10 ∨ n = 11 ∨ n = 12 ∨ n = 13 ∨ n = 14 ∨ n = 15 := by omega
  rcases this with rfl | rfl | rfl | rfl | rfl | rfl | rfl | rfl | rfl | rfl | rfl | rfl | rfl | rfl | rfl | rfl <;> decide
/-- What each half of a byte does. -/
def half (c : BitVec 32) : BitVec 32 := (c >>> 4) ^^^ T (c &&& 15#32)
/-- What a byte does. -/
def byte (c : BitVec 32) (x : Int) : BitVec 32 := half (half (c ^^^ BitVec.ofInt 32 x))
/-- A sum of more bytes, without the turning at both ends. -/
def run (c : BitVec 32) (l : List Int) : BitVec 32 := l.foldl byte c
theorem run_snoc (c : BitVec 32) (l : List Int) (x : Int) : run c (l ++ [x]) = byte (run c l) x := by simp [run]
theorem run_append (c : BitVec 32) (l m : List Int) : run c (l ++ m) = run (run c l) m := by simp [run]
/-- A sum of more bytes. -/
def more (a : Int) (l : List Int) : Int := B (~~~ (run (~~~ (BitVec.ofInt 32 a)) l))
end Go.Proofs.YtojagnoobaleaaaDoor.Ext
