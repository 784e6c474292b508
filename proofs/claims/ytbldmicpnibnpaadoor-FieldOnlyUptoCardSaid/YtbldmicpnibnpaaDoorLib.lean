/-
  DERIVED: THE SHELF's CONTRACTS AT THIS DUMP, IN PLAIN WORDS (tools/lay-plain.mjs out of 'YtbldmicpnibnpaaDoorSh.lean', which tools/lay-shelf.mjs wrote): THE SAME DECLARATIONS UNDER THE SAME NAMES: 'import', 'namespace', 'open', 'def', 'theorem' AND NOTHING ELSE: no command of the shelf's: FOR A HAND-IN. Each laying: the table of numbers ('.._ren') and one theorem, a field a fact of the dump's own or the kernel's comparison; each contract: ONE APPLICATION.
-/
import Derived.Shelf.SlGeneric
import Derived.Shelf.SlIter.Nil
import Derived.Ground.GgzProg
import Derived.Shelf.Strings.OnBuilder
import Derived.Shelf.Strings.SlTrimAscii
import Derived.Shelf.Strings.Search1
import Derived.Shelf.Small.Strs
import Derived.Shelf.Sort.Plain
import Derived.Shelf.Slices.In.SortNone
import Derived.Test.YtbldmicpnibnpaaDoorProg
namespace Go.Proofs
open Go.Shelf
def Tryd.lays156_ren : Go.Shelf.Ren := ⟨fun | 156 => 14 | 165 => 20 | 166 => 21 | 169 => 22 | 240 => 33 | 241 => 34 | 276 => 43 | 277 => 44 | n => n, fun | 31 => 30 | 9 => 9 | 3 => 3 | 4 => 4 | 0 => 0 | 20 => 20 | 72 => 47 | 76 => 51 | 70 => 45 | 37 => 42 | 75 => 50 | 127 => 67 | 164 => 74 | 5 => 5 | 80 => 53 | n => n, fun | n => n⟩
theorem Tryd.lays156 : Go.Proofs.Lays.n156 Tryd.prog Tryd.lays156_ren := {
  mixed := by kernel_rfl
  f156 := Tryd.func14.trans (congrArg some (by kernel_rfl))
  f165 := Tryd.func20.trans (congrArg some (by kernel_rfl))
  f166 := Tryd.func21.trans (congrArg some (by kernel_rfl))
  f169 := Tryd.func22.trans (congrArg some (by kernel_rfl))
  f240 := Tryd.func33.trans (congrArg some (by kernel_rfl))
  f241 := Tryd.func34.trans (congrArg some (by kernel_rfl))
  f276 := Tryd.func43.trans (congrArg some (by kernel_rfl))
  f277 := Tryd.func44.trans (congrArg some (by kernel_rfl))
  t0 := Tryd.underlying0
  a0 := Tryd.isAgg0
  z0 := Tryd.sizeOf0
  v0 := Tryd.zeroValue0
  t3 := Tryd.underlying3
  a3 := Tryd.isAgg3
  z3 := Tryd.sizeOf3
  v3 := Tryd.zeroValue3
  t4 := Tryd.underlying4
  a4 := Tryd.isAgg4
  z4 := Tryd.sizeOf4
  v4 := Tryd.zeroValue4
  t9 := Tryd.underlying9
  a9 := Tryd.isAgg9
  z9 := Tryd.sizeOf9
  v9 := Tryd.zeroValue9
  t20 := Tryd.underlying20
  a20 := Tryd.isAgg20
  z20 := Tryd.sizeOf20
  v20 := Tryd.zeroValue20
  t31 := Tryd.underlying30
  a31 := Tryd.isAgg30
  z31 := Tryd.sizeOf30
  v31 := Tryd.zeroValue30
  t37 := Tryd.underlying42
  a37 := Tryd.isAgg42
  z37 := Tryd.sizeOf42
  v37 := Tryd.zeroValue42
  t70 := Tryd.underlying45
  a70 := Tryd.isAgg45
  z70 := Tryd.sizeOf45
  v70 := Tryd.zeroValue45
  t72 := Tryd.underlying47
  a72 := Tryd.isAgg47
  z72 := Tryd.sizeOf47
  v72 := Tryd.zeroValue47
  t75 := Tryd.underlying50
  a75 := Tryd.isAgg50
  z75 := Tryd.sizeOf50
  v75 := Tryd.zeroValue50
  t76 := Tryd.underlying51
  a76 := Tryd.isAgg51
  z76 := Tryd.sizeOf51
  v76 := Tryd.zeroValue51
  t127 := Tryd.underlying67
  a127 := Tryd.isAgg67
  z127 := Tryd.sizeOf67
  v127 := Tryd.zeroValue67
  t164 := Tryd.underlying74
  a164 := Tryd.isAgg74
  z164 := Tryd.sizeOf74
  v164 := Tryd.zeroValue74 }
theorem Tryd.Builder_Extra_156 : Builder.Extra Tryd.prog Tryd.lays156_ren := {
  sizeBuilder := by kernel_rfl
  liesBuilder := by kernel_rfl
  t5 := Tryd.underlying5
  a5 := Tryd.isAgg5
  z5 := Tryd.sizeOf5
  v5 := Tryd.zeroValue5
  infoByte := by kernel_rfl
  cellsByte := by kernel_rfl
  sizeByte := by kernel_rfl
  neB5 := by decide }
open Go.RowKit in
/-- No element: the empty string; the world is as it was. (Whatever the slice's address and capacity: a nil slice too.) (LAID: no walk: one application.) -/
theorem Tryd.strings_Join_none (a : Option Addr) (c : Nat) (sep : ByteArray) (w : World) :
    Calls Tryd.prog 14 #[.slice a 0 c, .string sep] w fun e w' => e = .returned (.string ⟨#[]⟩) ∧ w' = w := Any.strings_Join_none Tryd.lays156 Tryd.Builder_Extra_156 a c sep w
open Go.RowKit in
/-- strings.Join: "Join concatenates the elements of its first argument to create a single string. The separator string sep is placed between elements in the resulting string.": HOWEVER MANY ELEMENTS. Below the heap's end the world is as it was. (LAID: no walk: one application.) -/
theorem Tryd.strings_Join (bk o c : Nat) (xs : List ByteArray) (sep : ByteArray) (w : World) (hcells : ∀ (j : Nat) x, xs[j]? = some x → w.cell? ⟨bk, o + j, none⟩ = some (.string x)) (hbk : bk < w.heap.size) (hN : xs.length ≤ 140737488355328) (hcap : xs.length ≤ c) (hlen : (Lib.join (xs.map (·.data.toList)) sep.data.toList).length ≤ 140737488355328) :
    Calls Tryd.prog 14 #[.slice (some ⟨bk, o, none⟩) xs.length c, .string sep] w fun e w' => e = .returned (.string ⟨(Lib.join (xs.map (·.data.toList)) sep.data.toList).toArray⟩) ∧ Below w.heap.size w w' := Any.strings_Join Tryd.lays156 Tryd.Builder_Extra_156 bk o c xs sep w hcells hbk hN hcap hlen
def Tryd.lays160_ren : Go.Shelf.Ren := ⟨fun | 160 => 17 | 232 => 25 | 231 => 24 | 227 => 26 | 234 => 28 | 233 => 27 | 236 => 30 | 235 => 29 | 228 => 36 | 271 => 39 | 151 => 38 | 197 => 37 | 120 => 48 | 152 => 47 | 260 => 46 | 137 => 23 | 119 => 52 | 224 => 53 | 225 => 54 | 217 => 35 | 266 => 45 | n => n, fun | 9 => 9 | 4 => 4 | 3 => 3 | 5 => 5 | 117 => 58 | 116 => 57 | 0 => 0 | 124 => 61 | 21 => 21 | 105 => 69 | 46 => 81 | 119 => 82 | 139 => 85 | 138 => 84 | n => n, fun | 3 => 1 | 4 => 2 | n => n⟩
theorem Tryd.lays160 : Go.Proofs.Lays.n160 Tryd.prog Tryd.lays160_ren := {
  mixed := by kernel_rfl
  f119 := Tryd.func52.trans (congrArg some (by kernel_rfl))
  f120 := Tryd.func48.trans (congrArg some (by kernel_rfl))
  f137 := Tryd.func23.trans (congrArg some (by kernel_rfl))
  f151 := Tryd.func38.trans (congrArg some (by kernel_rfl))
  f152 := Tryd.func47.trans (congrArg some (by kernel_rfl))
  f160 := Tryd.func17.trans (congrArg some (by kernel_rfl))
  f197 := Tryd.func37.trans (congrArg some (by kernel_rfl))
  f217 := Tryd.func35.trans (congrArg some (by kernel_rfl))
  f224 := Tryd.func53.trans (congrArg some (by kernel_rfl))
  f225 := Tryd.func54.trans (congrArg some (by kernel_rfl))
  f227 := Tryd.func26.trans (congrArg some (by kernel_rfl))
  f228 := Tryd.func36.trans (congrArg some (by kernel_rfl))
  f231 := Tryd.func24.trans (congrArg some (by kernel_rfl))
  f232 := Tryd.func25.trans (congrArg some (by kernel_rfl))
  f233 := Tryd.func27.trans (congrArg some (by kernel_rfl))
  f234 := Tryd.func28.trans (congrArg some (by kernel_rfl))
  f235 := Tryd.func29.trans (congrArg some (by kernel_rfl))
  f236 := Tryd.func30.trans (congrArg some (by kernel_rfl))
  f260 := Tryd.func46.trans (congrArg some (by kernel_rfl))
  f266 := Tryd.func45.trans (congrArg some (by kernel_rfl))
  f271 := Tryd.func39.trans (congrArg some (by kernel_rfl))
  t0 := Tryd.underlying0
  a0 := Tryd.isAgg0
  z0 := Tryd.sizeOf0
  v0 := Tryd.zeroValue0
  t3 := Tryd.underlying3
  a3 := Tryd.isAgg3
  z3 := Tryd.sizeOf3
  v3 := Tryd.zeroValue3
  t4 := Tryd.underlying4
  a4 := Tryd.isAgg4
  z4 := Tryd.sizeOf4
  v4 := Tryd.zeroValue4
  t5 := Tryd.underlying5
  a5 := Tryd.isAgg5
  z5 := Tryd.sizeOf5
  v5 := Tryd.zeroValue5
  t9 := Tryd.underlying9
  a9 := Tryd.isAgg9
  z9 := Tryd.sizeOf9
  v9 := Tryd.zeroValue9
  t21 := Tryd.underlying21
  a21 := Tryd.isAgg21
  z21 := Tryd.sizeOf21
  v21 := Tryd.zeroValue21
  t46 := Tryd.underlying81
  a46 := Tryd.isAgg81
  z46 := Tryd.sizeOf81
  v46 := Tryd.zeroValue81
  t105 := Tryd.underlying69
  a105 := Tryd.isAgg69
  z105 := Tryd.sizeOf69
  v105 := Tryd.zeroValue69
  t116 := Tryd.underlying57
  a116 := Tryd.isAgg57
  z116 := Tryd.sizeOf57
  t117 := Tryd.underlying58
  a117 := Tryd.isAgg58
  z117 := Tryd.sizeOf58
  v117 := Tryd.zeroValue58
  t119 := Tryd.underlying82
  a119 := Tryd.isAgg82
  z119 := Tryd.sizeOf82
  t124 := Tryd.underlying61
  a124 := Tryd.isAgg61
  z124 := Tryd.sizeOf61
  v124 := Tryd.zeroValue61
  t138 := Tryd.underlying84
  a138 := Tryd.isAgg84
  z138 := Tryd.sizeOf84
  v138 := Tryd.zeroValue84
  t139 := Tryd.underlying85
  a139 := Tryd.isAgg85
  z139 := Tryd.sizeOf85
  v139 := Tryd.zeroValue85
  g3 := by kernel_rfl
  g4 := by kernel_rfl }
def Tryd.lays137_ren : Go.Shelf.Ren := ⟨fun | 137 => 23 | 217 => 35 | 266 => 45 | n => n, fun | 9 => 9 | 5 => 5 | 3 => 3 | n => n, fun | n => n⟩
theorem Tryd.lays137 : Go.Proofs.Lays.n137 Tryd.prog Tryd.lays137_ren := {
  mixed := by kernel_rfl
  f137 := Tryd.func23.trans (congrArg some (by kernel_rfl))
  f217 := Tryd.func35.trans (congrArg some (by kernel_rfl))
  f266 := Tryd.func45.trans (congrArg some (by kernel_rfl))
  t3 := Tryd.underlying3
  a3 := Tryd.isAgg3
  z3 := Tryd.sizeOf3
  v3 := Tryd.zeroValue3
  t5 := Tryd.underlying5
  a5 := Tryd.isAgg5
  z5 := Tryd.sizeOf5
  v5 := Tryd.zeroValue5
  t9 := Tryd.underlying9
  a9 := Tryd.isAgg9
  z9 := Tryd.sizeOf9
  v9 := Tryd.zeroValue9 }
open Go.RowKit in
/-- strings.IndexByte: "IndexByte returns the index of the first instance of c in s, or -1 if c is not present in s.": IT RETURNS 'Lib.indexByte s c'; the world is as it was. (LAID: no walk: one application.) -/
theorem Tryd.strings_IndexByte (s : ByteArray) (c : Int) (w : World) :
    Calls Tryd.prog 23 #[.string s, .int .u8 c] w fun e w' => e = .returned (.int .i64 (Lib.indexByte s.data.toList c.toNat.toUInt8)) ∧ w' = w := Any.strings_IndexByte Tryd.lays137 s c w
def Tryd.lays190_ren : Go.Shelf.Ren := ⟨fun | 190 => 41 | 125 => 51 | 258 => 50 | 128 => 64 | 129 => 65 | 302 => 55 | 303 => 56 | 304 => 57 | 305 => 58 | 306 => 59 | 307 => 60 | 308 => 61 | 309 => 62 | 310 => 63 | 333 => 66 | 329 => 67 | 330 => 68 | 334 => 69 | 335 => 70 | 336 => 71 | 344 => 72 | n => n, fun | 31 => 30 | 9 => 9 | 3 => 3 | 46 => 81 | 0 => 0 | 51 => 97 | 53 => 99 | 4 => 4 | 183 => 91 | 182 => 90 | 131 => 35 | 5 => 5 | 218 => 100 | 222 => 104 | 228 => 106 | 229 => 107 | n => n, fun | n => n⟩
theorem Tryd.lays190 : Go.Proofs.Lays.n190 Tryd.prog Tryd.lays190_ren := {
  mixed := by kernel_rfl
  f125 := Tryd.func51.trans (congrArg some (by kernel_rfl))
  f128 := Tryd.func64.trans (congrArg some (by kernel_rfl))
  f129 := Tryd.func65.trans (congrArg some (by kernel_rfl))
  f190 := Tryd.func41.trans (congrArg some (by kernel_rfl))
  f258 := Tryd.func50.trans (congrArg some (by kernel_rfl))
  f302 := Tryd.func55.trans (congrArg some (by kernel_rfl))
  f303 := Tryd.func56.trans (congrArg some (by kernel_rfl))
  f304 := Tryd.func57.trans (congrArg some (by kernel_rfl))
  f305 := Tryd.func58.trans (congrArg some (by kernel_rfl))
  f306 := Tryd.func59.trans (congrArg some (by kernel_rfl))
  f307 := Tryd.func60.trans (congrArg some (by kernel_rfl))
  f308 := Tryd.func61.trans (congrArg some (by kernel_rfl))
  f309 := Tryd.func62.trans (congrArg some (by kernel_rfl))
  f310 := Tryd.func63.trans (congrArg some (by kernel_rfl))
  f329 := Tryd.func67.trans (congrArg some (by kernel_rfl))
  f330 := Tryd.func68.trans (congrArg some (by kernel_rfl))
  f333 := Tryd.func66.trans (congrArg some (by kernel_rfl))
  f334 := Tryd.func69.trans (congrArg some (by kernel_rfl))
  f335 := Tryd.func70.trans (congrArg some (by kernel_rfl))
  f336 := Tryd.func71.trans (congrArg some (by kernel_rfl))
  f344 := Tryd.func72.trans (congrArg some (by kernel_rfl))
  t0 := Tryd.underlying0
  a0 := Tryd.isAgg0
  z0 := Tryd.sizeOf0
  v0 := Tryd.zeroValue0
  t3 := Tryd.underlying3
  a3 := Tryd.isAgg3
  z3 := Tryd.sizeOf3
  v3 := Tryd.zeroValue3
  t4 := Tryd.underlying4
  a4 := Tryd.isAgg4
  z4 := Tryd.sizeOf4
  v4 := Tryd.zeroValue4
  t5 := Tryd.underlying5
  a5 := Tryd.isAgg5
  z5 := Tryd.sizeOf5
  v5 := Tryd.zeroValue5
  t9 := Tryd.underlying9
  a9 := Tryd.isAgg9
  z9 := Tryd.sizeOf9
  v9 := Tryd.zeroValue9
  t31 := Tryd.underlying30
  a31 := Tryd.isAgg30
  z31 := Tryd.sizeOf30
  v31 := Tryd.zeroValue30
  t46 := Tryd.underlying81
  a46 := Tryd.isAgg81
  z46 := Tryd.sizeOf81
  v46 := Tryd.zeroValue81
  t51 := Tryd.underlying97
  a51 := Tryd.isAgg97
  z51 := Tryd.sizeOf97
  v51 := Tryd.zeroValue97
  t53 := Tryd.underlying99
  a53 := Tryd.isAgg99
  z53 := Tryd.sizeOf99
  v53 := Tryd.zeroValue99
  t131 := Tryd.underlying35
  a131 := Tryd.isAgg35
  z131 := Tryd.sizeOf35
  v131 := Tryd.zeroValue35
  t182 := Tryd.underlying90
  a182 := Tryd.isAgg90
  z182 := Tryd.sizeOf90
  v182 := Tryd.zeroValue90
  t183 := Tryd.underlying91
  a183 := Tryd.isAgg91
  z183 := Tryd.sizeOf91
  v183 := Tryd.zeroValue91
  t218 := Tryd.underlying100
  a218 := Tryd.isAgg100
  z218 := Tryd.sizeOf100
  v218 := Tryd.zeroValue100
  t222 := Tryd.underlying104
  a222 := Tryd.isAgg104
  z222 := Tryd.sizeOf104
  v222 := Tryd.zeroValue104
  t228 := Tryd.underlying106
  a228 := Tryd.isAgg106
  z228 := Tryd.sizeOf106
  v228 := Tryd.zeroValue106
  t229 := Tryd.underlying107
  a229 := Tryd.isAgg107
  z229 := Tryd.sizeOf107
  v229 := Tryd.zeroValue107 }
open Go.Sort Go.RowKit in
theorem Tryd.slices_Sort_string (blk off cap : Nat) (ss : List (List UInt8)) (w : World) (hH : Holds encStr w blk off ss.toArray) (hblk : blk < w.heap.size) (hsz : ss.length < 4611686018427387904) :
    Calls Tryd.prog 41 #[.slice (some ⟨blk, off, none⟩) ss.length cap] w fun e w' =>
      e = .returned (.tuple #[]) ∧ ∃ n os, w' = grow (putRow encStr (Sort.ahead w n) blk off (ss.mergeSort fun x y => decide (x ≤ y)).toArray) os := Any.slices_Sort_string Tryd.lays190 blk off cap ss w hH hblk hsz
open Go.RowKit Go.Sort in
/-- .. and plain. (LAID: no walk: one application.) -/
theorem Tryd.slices_Sort_string_none (p : Option Addr) (cap : Nat) (w : World) :
    Calls Tryd.prog 41 #[.slice p 0 cap] w fun e w' => e = .returned (.tuple #[]) ∧ w' = w := Any.slices_Sort_string_none Tryd.lays190 p cap w
def Tryd.keys32_ren : Go.Shelf.Ren := ⟨fun | 7 => 32 | 10 => 42 | n => n, fun | 23 => 62 | 26 => 9 | 3 => 4 | 28 => 65 | 0 => 0 | 27 => 64 | 33 => 73 | 4 => 4 | n => n, fun | n => n⟩
theorem Tryd.keys32 : Go.Proofs.SlLaysZ.n7 Tryd.prog Tryd.keys32_ren := {
  mixed := by kernel_rfl
  f7 := ⟨Tryd.f32.name, by decide, Tryd.func32.trans (congrArg some (by kernel_rfl))⟩
  f10 := ⟨Tryd.f42.name, by decide, Tryd.func42.trans (congrArg some (by kernel_rfl))⟩
  t0 := Tryd.underlying0
  a0 := Tryd.isAgg0
  z0 := Tryd.sizeOf0
  v0 := Tryd.zeroValue0
  t4 := Tryd.underlying4
  a4 := Tryd.isAgg4
  z4 := Tryd.sizeOf4
  v4 := Tryd.zeroValue4
  t23 := Tryd.underlying62
  a23 := Tryd.isAgg62
  z23 := Tryd.sizeOf62
  v23 := Tryd.zeroValue62
  t26 := Tryd.underlying9
  a26 := Tryd.isAgg9
  z26 := Tryd.sizeOf9
  v26 := Tryd.zeroValue9
  t27 := Tryd.underlying64
  a27 := Tryd.isAgg64
  z27 := Tryd.sizeOf64
  v27 := Tryd.zeroValue64
  t28 := Tryd.underlying65
  a28 := Tryd.isAgg65
  z28 := Tryd.sizeOf65
  v28 := Tryd.zeroValue65
  t33 := Tryd.underlying73
  a33 := Tryd.isAgg73
  z33 := Tryd.sizeOf73
  v33 := Tryd.zeroValue73 }
def Tryd.sorted31_ren : Go.Shelf.Ren := ⟨fun | 6 => 31 | 8 => 40 | 9 => 41 | 11 => 49 | 13 => 51 | 12 => 50 | 23 => 64 | 24 => 65 | 14 => 55 | 15 => 56 | 16 => 57 | 17 => 58 | 18 => 59 | 19 => 60 | 20 => 61 | 21 => 62 | 22 => 63 | 25 => 66 | 26 => 67 | 27 => 68 | 28 => 69 | 29 => 70 | 30 => 71 | 31 => 72 | n => n, fun | 26 => 9 | 28 => 65 | 24 => 30 | 0 => 0 | 3 => 3 | 37 => 81 | 48 => 97 | 50 => 99 | 4 => 4 | 40 => 91 | 39 => 90 | 45 => 35 | 5 => 5 | 9 => 9 | 51 => 100 | 55 => 104 | 57 => 106 | 58 => 107 | 33 => 73 | n => n, fun | n => n⟩
theorem Tryd.sorted31 : Go.Proofs.SlLaysZ.n6 Tryd.prog Tryd.sorted31_ren := {
  mixed := by kernel_rfl
  f6 := ⟨Tryd.f31.name, by decide, Tryd.func31.trans (congrArg some (by kernel_rfl))⟩
  f8 := ⟨Tryd.f40.name, by decide, Tryd.func40.trans (congrArg some (by kernel_rfl))⟩
  f11 := ⟨Tryd.f49.name, by decide, Tryd.func49.trans (congrArg some (by kernel_rfl))⟩
  t0 := Tryd.underlying0
  a0 := Tryd.isAgg0
  z0 := Tryd.sizeOf0
  v0 := Tryd.zeroValue0
  t24 := Tryd.underlying30
  a24 := Tryd.isAgg30
  z24 := Tryd.sizeOf30
  v24 := Tryd.zeroValue30
  t26 := Tryd.underlying9
  a26 := Tryd.isAgg9
  z26 := Tryd.sizeOf9
  v26 := Tryd.zeroValue9
  t28 := Tryd.underlying65
  a28 := Tryd.isAgg65
  z28 := Tryd.sizeOf65
  v28 := Tryd.zeroValue65
  i26 := by kernel_rfl }
open Go.RowKit Go.Maps Go.Sort Go.Shelf
/-- slices.Sort's two contracts at this dump, at the fence that asks nothing. -/
theorem Tryd.sorts31 (m : Nat) : AnyZ.SortsIn Tryd.prog Tryd.sorted31_ren Fence.wide m :=
  ⟨fun blk off cap ss W hH hblk hsz => callsIn_wide.2 (Tryd.slices_Sort_string blk off cap ss W hH hblk hsz),
   fun p cap W => callsIn_wide.2 (Tryd.slices_Sort_string_none p cap W)⟩

/-- **maps.Keys[map[string]bool,string,bool], at whatever map, the nil one too:** a function value over ONE NEW BLOCK, which holds the map. -/
theorem Tryd.maps_Keys_32 (mb : Option Nat) (W : World) : CallsIn Fence.wide 5 Tryd.prog 32 #[.map mb] W fun e w' => e = .returned (.func (.func 42) #[] #[.pointer (some ⟨W.heap.size, 0, none⟩)]) ∧ w' = W.alloc (.cells #[.map mb] 62) :=
  AnyZ.keys_in Tryd.keys32 Fence.wide 5 trivial rfl mb W

set_option maxHeartbeats 1000000 in
/-- **slices.Sorted[string] AT WHAT maps.Keys[map[string]bool,string,bool] HANDED BACK FOR A MAP THAT IS NOT nil** ('w': the world AHEAD of maps.Keys' call): A NEW SLICE THAT HOLDS THE MAP's KEYS, SORTED; nil just where it has none; nothing that lay before has turned. -/
theorem Tryd.slices_Sorted_keys_31_32 {H : Type} (b nn : Nat) (D0 : DataW H) (R : Value → Option (DataW H × List MemPlace)) (w : World) (hown : w.ownsMap Tryd.prog 9 R b nn D0) (hmax : Maps.size D0 ≤ maxLen) (hbytes : Maps.size D0 * 16 ≤ 140737488355328) :
    CallsIn Fence.wide 5 Tryd.prog 31 #[.func (.func 42) #[] #[.pointer (some ⟨w.heap.size, 0, none⟩)]] (w.alloc (.cells #[.map (some b)] 62)) fun e w' => ∃ (v : Value) (ss : List (List UInt8)), e = .returned v ∧ ss.Perm (strKeys D0) ∧
      w'.ownsRow (w.alloc (.cells #[.map (some b)] 62)).heap.size 9 1 v ss.length ((ss.mergeSort (fun x y => decide (x ≤ y))).map encStr) ∧ (v = .slice none 0 0 ↔ ss = []) ∧ Below (w.alloc (.cells #[.map (some b)] 62)).heap.size (w.alloc (.cells #[.map (some b)] 62)) w' := by
  have hbl := hown.lt
  have hseq : SeqGives Fence.wide 2 Tryd.prog 42 #[.pointer (some ⟨w.heap.size, 0, none⟩)] encStr (fun ss => ss.Perm (strKeys D0)) (Maps.size D0) (w.alloc (.cells #[.map (some b)] 62)) :=
    AnyZ.keys_gives (ρ := Tryd.keys32_ren) { Tryd.keys32 with } Fence.wide _ trivial rfl (by omega) w.heap.size b nn D0 _ (by simp) (by simp) (by
      obtain ⟨es, clock, hb, Ft, hs, hD⟩ := hown
      exact ⟨es, clock, (Below.heap_alloc _ _ b hbl).trans hb, Ft, hs, hD⟩)
  exact AnyZ.sorted_in Tryd.sorted31 Fence.wide 5 trivial trivial trivial trivial rfl (by omega) (Tryd.sorts31 _) (enters_of Tryd.func41 (by kernel_rfl) rfl) 42 #[.pointer (some ⟨w.heap.size, 0, none⟩)] trivial (enters_of Tryd.func42 (by kernel_rfl) rfl) _ _ hmax hbytes _ hseq
open Go.RowKit in
theorem Tryd.strings_Trim_set2 (s : ByteArray) (w : World) (hs : s.size ≤ 9223372036854775807) :
    Calls Tryd.prog 17 #[.string s, .string ⟨#[9, 32]⟩] w fun e w' => e = .returned (.string ⟨(Lib.trimS s.data.toList [9, 32]).toArray⟩) ∧ Below w.heap.size w w' :=
  Any.strings_Trim_laid Tryd.lays160 (by kernel_rfl) s ⟨#[9, 32]⟩ w hs (by decide) (ascii_of_all (by decide))
end Go.Proofs
