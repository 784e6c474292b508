/- What must be in any case; a line that took what it takes: by hand. Written by wip/tools/linef.py. -/
import Derived.Test.YtjflbjlkcifpdaaDoorLineE
namespace Go.Proofs.YtjflbjlkcifpdaaDoor.Ext
open Go.RowKit Go.Proofs.YtjflbjlkcifpdaaDoor.Xa Go.Proofs.YtjflbjlkcifpdaaDoorW.PrintWords Go.Proofs.YtjflbjlkcifpdaaDoorW.PrintLast Go.Proofs.YtjflbjlkcifpdaaDoorW.PrintMore
open Go.Maps (Keyed)
set_option linter.unusedVariables false
set_option linter.unusedSimpArgs false
/-- A line that the call has made. -/
structure Wl (w W : World) (g gm : Nat) (X : LS) : Prop where
  bel : Below w.heap.size w W
  ln : Ln W g gm X
  lo : w.heap.size ≤ g
  lom : w.heap.size ≤ gm
theorem Wl.feed {w W W1 : World} {g gm : Nat} {X X1 : LS} (h : Wl w W g gm X) (hl : Ln W1 g gm X1) (hm : Mv W W1 g gm) : Wl w W1 g gm X1 :=
  ⟨hm.below h.bel h.bel.size h.lo h.lom, hl, h.lo, h.lom⟩
theorem Wl.below {w W W1 : World} {g gm : Nat} {X : LS} (h : Wl w W g gm X) (hb : Below W.heap.size W W1) : Wl w W1 g gm X :=
  ⟨below_then h.bel h.bel.size hb, h.ln.below hb, h.lo, h.lom⟩
def E0 : ByteArray := ⟨#[]⟩
def tA : ByteArray := ⟨#[104, 116, 116, 112, 115, 58, 47, 47, 97, 47]⟩
def tG : ByteArray := ⟨#[71, 69, 84]⟩
def eSend : S31 := ⟨8, 0, 1, E0, E0, E0, E0, 0, 0, 0⟩
def ePage : S31 := ⟨1, 0, 0, tA, E0, E0, E0, 0, 0, 0⟩
def eStart : S31 := ⟨3, 0, 1, tG, tA, E0, E0, 0, 0, 0⟩
def eDone : S31 := ⟨14, 0, 1, E0, E0, E0, E0, 0, 0, 0⟩
def eResp : S31 := ⟨10, 0, 1, E0, E0, E0, E0, 200, 0, 0⟩
def s1 : LS := ⟨1, 0, 0, .map []⟩
def at1 (v : Int) : DataW Unit := .map [(.int .u64 1, .lit (.int .i64 v))]
def s2 : LS := ⟨2, 0, 1, at1 1⟩
def s3 : LS := ⟨3, 0, 1, at1 4⟩
def s4 : LS := ⟨4, 0, 1, at1 5⟩
def s5 : LS := ⟨5, 0, 0, at1 0⟩
theorem p1 : feedF L0 eSend = (6, L0) := by kernel_rfl
theorem p2 : feedF L0 ePage = (0, s1) := by kernel_rfl
theorem p3 : feedF s1 eStart = (0, s2) := by kernel_rfl
theorem p4 : feedF s2 eSend = (0, s3) := by kernel_rfl
theorem p5 : feedF s3 eDone = (6, s3) := by kernel_rfl
theorem p6 : feedF s3 eResp = (0, s4) := by kernel_rfl
theorem p7 : feedF s4 eDone = (0, s5) := by kernel_rfl
theorem p8 : feedF s5 eStart = (6, s5) := by kernel_rfl
set_option maxHeartbeats 4000000 in
theorem shown_calls (w : World) (hG : Glob w) : Calls Tryd.prog 9 #[] w fun e w' => e = .returned (.bool true) ∧ Below w.heap.size w w' := by
  have HG := Aside0.mk hG
  clear hG
  go_enter Tryd.func9, Tryd.ntmps9
  go_wp2_with (fail)
  refine (new_calls w).mono ?_
  rintro e w0 ⟨g, gm, rfl, hl, hg, hm, hb⟩
  have H0 := Aside0.mk (Wl.mk hb hl hg hm)
  clear hb hl hg hm
  go_wp2_with (fail)
  refine (feed_calls eSend (HG.out.below H0.out.bel) H0.out.ln (by decide)).mono ?_
  rw [p1]
  rintro e w1 ⟨rfl, hl, hm⟩
  have H1 := Aside0.mk (H0.out.feed hl hm)
  clear hl hm H0
  go_wp2_with (fail)
  refine (feed_calls ePage (HG.out.below H1.out.bel) H1.out.ln (by decide)).mono ?_
  rw [p2]
  rintro e w2 ⟨rfl, hl, hm⟩
  have H2 := Aside0.mk (H1.out.feed hl hm)
  clear hl hm H1
  go_wp2_with (fail)
  refine (feed_calls eStart (HG.out.below H2.out.bel) H2.out.ln (by decide)).mono ?_
  rw [p3]
  rintro e w3 ⟨rfl, hl, hm⟩
  have H3 := Aside0.mk (H2.out.feed hl hm)
  clear hl hm H2
  go_wp2_with (fail)
  refine (feed_calls eSend (HG.out.below H3.out.bel) H3.out.ln (by decide)).mono ?_
  rw [p4]
  rintro e w4 ⟨rfl, hl, hm⟩
  have H4 := Aside0.mk (H3.out.feed hl hm)
  clear hl hm H3
  go_wp2_with (fail)
  refine (feed_calls eDone (HG.out.below H4.out.bel) H4.out.ln (by decide)).mono ?_
  rw [p5]
  rintro e w5 ⟨rfl, hl, hm⟩
  have H5 := Aside0.mk (H4.out.feed hl hm)
  clear hl hm H4
  go_wp2_with (fail)
  refine (feed_calls eResp (HG.out.below H5.out.bel) H5.out.ln (by decide)).mono ?_
  rw [p6]
  rintro e w6 ⟨rfl, hl, hm⟩
  have H6 := Aside0.mk (H5.out.feed hl hm)
  clear hl hm H5
  go_wp2_with (fail)
  refine (feed_calls eDone (HG.out.below H6.out.bel) H6.out.ln (by decide)).mono ?_
  rw [p7]
  rintro e w7 ⟨rfl, hl, hm⟩
  have H7 := Aside0.mk (H6.out.feed hl hm)
  clear hl hm H6
  go_wp2_with (fail)
  refine (feed_calls eStart (HG.out.below H7.out.bel) H7.out.ln (by decide)).mono ?_
  rw [p8]
  rintro e w8 ⟨rfl, hl, hm⟩
  have H8 := Aside0.mk (H7.out.feed hl hm)
  clear hl hm H7
  go_wp2_with (fail)
  refine (count_calls H8.out.ln).mono ?_
  rintro e w9 ⟨rfl, hw9⟩
  subst hw9
  go_wp2_with (fail)
  refine (open_calls H8.out.ln).mono ?_
  rintro e w9 ⟨rfl, hw9⟩
  subst hw9
  go_wp2
  go_ret
  exact ⟨rfl, H8.out.bel⟩
end Go.Proofs.YtjflbjlkcifpdaaDoor.Ext
