/- frame.Join and frame.At in the form that the printed walks of the laws ask. -/
import Derived.Test.YtojagnoobaleaaaDoorFrV
namespace Go.Proofs.YtojagnoobaleaaaDoor.Ext
open Go.RowKit Go.Shelf Go.Proofs.YtojagnoobaleaaaDoor.Xp Go.Proofs.YtojagnoobaleaaaDoorW.PrintWords Go.Proofs.YtojagnoobaleaaaDoorW.PrintLast Go.Proofs.YtojagnoobaleaaaDoorW.PrintMore
set_option linter.unusedVariables false
/-- A row that Join left, of which only its reading counts; in the form of an own row. -/
def JV (w : World) (base : Nat) (ok : Nat → Prop) (v : Value) (l : List Int) : Prop := (∀ k, v.ownBlock = some k → ok k) ∧ ∃ b, base ≤ b ∧ JR w b v l
section
variable {W W' : World} {ba b g t : Nat} {ok ok' : Nat → Prop} {u v v1 : Value} {l : List Int}
theorem JV.of {w : World} (h : JR w ba v l) : JV w ba (fun _ => True) v l := ⟨fun _ _ => trivial, _, Nat.le_refl _, h⟩
theorem JV.below (h : JV W ba ok v l) (hb : Below W.heap.size W W') : JV W' ba ok v l := by
  obtain ⟨h0, b, h1, h2⟩ := h
  exact ⟨h0, b, h1, h2.below hb⟩
theorem JV.alloc (h : JV W ba ok v l) (o : Obj) : JV (W.alloc o) ba ok v l := h.below (below_alloc (Below.refl _ _) o)
theorem JV.drew (h : JV W ba ok v l) : JV W.drew ba ok v l := h.below (below_drew (Below.refl _ _))
theorem JV.drewN (h : JV W ba ok v l) (m : Nat) : JV (W.drewN m) ba ok v l := h.below (pw_below_drewN (Below.refl _ _) m)
theorem JV.lower (h : JV W ba ok v l) (hb : b ≤ ba) : JV W b ok v l := by
  obtain ⟨h0, c, h1, h2⟩ := h
  exact ⟨h0, c, Nat.le_trans hb h1, h2⟩
theorem JV.mono (h : JV W ba ok v l) (hok : ∀ k, ok k → ok' k) : JV W ba ok' v l := ⟨fun k hk => hok k (h.1 k hk), h.2⟩
theorem JV.slice (h : JV W ba ok v l) : ∃ A c, v = .slice A l.length c := h.2.elim fun _ h => h.2.slice
theorem JV.reads (h : JV W ba ok v l) : ∃ A c, v = .slice A l.length c ∧ l.length ≤ c ∧ Kd.C (Kd.int .u8) W A l.length l := h.2.elim fun _ h => h.2.reads
theorem JV.reads' {A : Option Addr} {n c : Nat} (h : JV W ba ok (.slice A n c) l) : n = l.length ∧ n ≤ c ∧ Kd.C (Kd.int .u8) W A l.length l := by
  obtain ⟨A', c', h1, h2, h3⟩ := h.reads
  injection h1 with e1 e2 e3
  subst e1; subst e2; subst e3
  exact ⟨rfl, h2, h3⟩
theorem JV.ne {cells : Array Value} (h : JV W ba ok v l) (hb : W.heap[g]? = some (.cells cells t (0, 0))) (ht : 5 ≠ t) : some g ≠ v.ownBlock := by
  obtain ⟨_, b, _, h⟩ := h
  rcases h with h | ⟨g', rfl, _, _, _, h5⟩
  · exact Kd.R_ne h hb ht
  · intro e
    simp [Value.ownBlock] at e
    subst e
    rw [hb] at h5
    injection h5 with h5
    injection h5 with _ h6 _
    exact ht h6.symm
theorem JV.base (h : JV W ba ok v l) : ∀ k, v.ownBlock = some k → ba ≤ k := fun k hk => by
  obtain ⟨_, b, h1, h | ⟨g, rfl, h2, _⟩⟩ := h
  · exact Nat.le_trans h1 (Kd.R_base h k hk)
  · simp [Value.ownBlock] at hk
    subst hk
    exact Nat.le_trans h1 h2
theorem JV.lt (h : JV W ba ok v l) : ∀ k, v.ownBlock = some k → k < W.heap.size := fun k hk => by
  obtain ⟨_, b, h1, h | ⟨g, rfl, h2, _, _, h5⟩⟩ := h
  · exact Kd.R_lt h k hk
  · simp [Value.ownBlock] at hk
    subst hk
    exact blk_lt h5
theorem JV.move (h : JV W ba ok v l) (hm : ∀ k, v.ownBlock = some k → W'.heap[k]? = W.heap[k]?) : JV W' ba ok v l := by
  obtain ⟨h0, b, h1, h | ⟨g, rfl, h2, h3, h4, h5⟩⟩ := h
  · exact ⟨h0, b, h1, .inl (Kd.R_mono (Kd.R_move (Kd.R_tight rfl h) (fun k hk => hm k hk.symm)) (fun _ _ => trivial))⟩
  · exact ⟨h0, b, h1, .inr ⟨g, rfl, h2, h3, h4, (hm g (by simp [Value.ownBlock])).trans h5⟩⟩
theorem JV.new' (h : JV W' W.heap.size ok v l) (hlt : ∀ k, u.ownBlock = some k → k < W.heap.size) : JV W' W.heap.size (fun k => ok k ∧ some k ≠ u.ownBlock) v l :=
  ⟨fun k hk => ⟨h.1 k hk, fun e => by have := hlt k e.symm; have := h.base k hk; omega⟩, h.2⟩
theorem JV.elder' (h : JV W ba ok v l) (hbase : ∀ k, u.ownBlock = some k → W.heap.size ≤ k) (hb : Below W.heap.size W W') : JV W' ba (fun k => ok k ∧ some k ≠ u.ownBlock) v l :=
  JV.below ⟨fun k hk => ⟨h.1 k hk, fun e => by have := hbase k e.symm; have := h.lt k hk; omega⟩, h.2⟩ hb
theorem JV.after (h : JV W ba (fun k => ok k ∧ some k ≠ u.ownBlock) v l) (hg : W.grownBy W' u.ownBlock) (hat : v1.ownBlock = u.ownBlock ∨ ∃ b, v1.ownBlock = some b ∧ W.heap.size ≤ b) : JV W' ba (fun k => ok k ∧ some k ≠ v1.ownBlock) v l := by
  have hm : JV W' ba (fun k => ok k ∧ some k ≠ u.ownBlock) v l := h.move (fun k hk => hg.block k (h.lt k hk) (h.1 k hk).2)
  refine ⟨fun k hk => ⟨(h.1 k hk).1, ?_⟩, hm.2⟩
  rcases hat with e | ⟨b, e, hb⟩
  · rw [e]; exact (h.1 k hk).2
  · rw [e]
    intro h_
    have := h.lt k hk
    cases h_; omega
theorem JV.string (h : JV W ba ok v l) : (convert 22 9 v).run Tryd.prog W = .ok (.string (strOfNums l)) W := by
  obtain ⟨A, c, rfl, h1, h2⟩ := h.reads
  exact Kd.C_string (P := Tryd.prog) (A := A) (c := c) Tryd.underlying22 Tryd.underlying5 Tryd.underlying9 h2
end
def okV (b : List Int) : Bool := b.all (fun x => decide (0 ≤ x) && decide (x < 256))
theorem okV_iff (b : List Int) : okV b = true ↔ Bytes b := by
  unfold okV
  simp only [List.all_eq_true, Bool.and_eq_true, decide_eq_true_eq]
  exact Iff.rfl
def frame_Join.f (l : List (List Int)) : Option (List Int × Int) := if l.all okV && decide (l.length ≤ 140737488355328) then some (joinF l) else none
theorem join_f {l : List (List Int)} (hl : ∀ b ∈ l, Bytes b) (hn : l.length ≤ 140737488355328) : frame_Join.f l = some (joinF l) := by
  unfold frame_Join.f
  rw [if_pos]
  simp only [Bool.and_eq_true, List.all_eq_true, decide_eq_true_eq]
  exact ⟨fun b hb => (okV_iff b).2 (hl b hb), hn⟩
theorem frame_Join.calls (A0 : Option Addr) (c0 : Nat) (l0 : List (List Int)) (r1 : List Int) (r2 : Int) (w : World) (hG : Glob w) (hr0 : Kd.C (Kd.slice 5 (Kd.int .u8)) w A0 l0.length l0) (hc0 : l0.length ≤ c0) (h : frame_Join.f l0 = some (r1, r2)) :
    Calls Tryd.prog 18 #[.slice A0 l0.length c0] w fun e w' => ∃ v0_, e = .returned (.tuple #[v0_, .int .i64 r2]) ∧ JV w' w.heap.size (fun _ => True) v0_ r1 ∧ Below w.heap.size w w' := by
  unfold frame_Join.f at h
  split at h
  · rename_i hb
    simp only [Bool.and_eq_true, List.all_eq_true, decide_eq_true_eq] at hb
    have h5 := Option.some.inj h
    refine (join_calls A0 c0 l0 w hG hr0 (fun b hb_ => (okV_iff b).1 (hb.1 b hb_)) hb.2).mono ?_
    rintro e w' ⟨v, h1, h2, h3⟩
    rw [h5] at h1 h2
    exact ⟨v, h1, JV.of h2, h3⟩
  · simp at h
def frame_At.f (l : List (List Int)) (i : Int) : Option Int := if 0 ≤ i ∧ i < (l.length : Int) then (if l.all (fun b => decide (b.length ≤ 20000)) && decide (l.length ≤ 4096) then some (atF l i.toNat : Int) else none) else some (-1)
theorem frame_At.calls (A0 : Option Addr) (c0 : Nat) (l0 : List (List Int)) (a1 : Int) (r : Int) (w : World) (hG : Glob w) (hr0 : Kd.C (Kd.slice 5 (Kd.int .u8)) w A0 l0.length l0) (hc0 : l0.length ≤ c0) (h : frame_At.f l0 a1 = some r) :
    Calls Tryd.prog 20 #[.slice A0 l0.length c0, .int .i64 a1] w fun e w' => e = .returned (.int .i64 r) ∧ Below w.heap.size w w' := by
  unfold frame_At.f at h
  split at h
  · rename_i hi
    split at h
    · rename_i hb
      simp only [Bool.and_eq_true, List.all_eq_true, decide_eq_true_eq] at hb
      have h5 := Option.some.inj h
      obtain ⟨n, rfl⟩ : ∃ n : Nat, a1 = n := ⟨a1.toNat, by omega⟩
      subst h5
      exact at_calls A0 c0 l0 n w hr0 (by omega) hb.2 hb.1
    · simp at h
  · rename_i hi
    have h5 := Option.some.inj h
    subst h5
    exact at_no A0 c0 l0 a1 w (by omega)
theorem at_f {l : List (List Int)} {i : Nat} (hi : i < l.length) (hn : l.length ≤ 4096) (hb : ∀ b ∈ l, b.length ≤ 20000) : frame_At.f l i = some (atF l i : Int) := by
  unfold frame_At.f
  rw [if_pos (by omega), if_pos, Int.toNat_natCast]
  simp only [Bool.and_eq_true, List.all_eq_true, decide_eq_true_eq]
  exact ⟨hb, hn⟩
theorem at_f_no {l : List (List Int)} {i : Int} (hi : i < 0 ∨ (l.length : Int) ≤ i) : frame_At.f l i = some (-1) := by
  unfold frame_At.f
  rw [if_neg (by omega)]
end Go.Proofs.YtojagnoobaleaaaDoor.Ext
