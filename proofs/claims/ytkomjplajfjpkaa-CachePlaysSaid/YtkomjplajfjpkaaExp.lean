/- The cache: Expire. By hand. -/
import Derived.Test.YtkomjplajfjpkaaPut
namespace Go.Proofs.Ytkomjplajfjpkaa.Ext
open Go.RowKit Go.Proofs.Ytkomjplajfjpkaa.Hea Go.Proofs.YtkomjplajfjpkaaW.PrintWords Go.Proofs.YtkomjplajfjpkaaW.PrintLast Go.Proofs.YtkomjplajfjpkaaW.PrintMore
open Go.Maps (Keyed)
set_option linter.unusedVariables false
set_option linter.unusedSimpArgs false
def expF (M : List (ByteArray × Int)) (now : Int) : List (ByteArray × Int) := M.filter (fun p => decide (now < p.2))
structure ExI (W wr : World) (c gm : Nat) (F : Nat → Prop) (M : List (ByteArray × Int)) (N : Nat) (now : Int) (n : Nat) (l : List Ent) : Prop where
  ex : ∃ o v D P, Cb wr c gm o F v l D (l.map pr) N ∧ (l.map pr ++ P).Perm M ∧ (∀ p ∈ P, p.2 ≤ now) ∧ P.length = n
  mv : Mvs F W wr
theorem ExI.done {W wr : World} {c gm : Nat} {F : Nat → Prop} {M : List (ByteArray × Int)} {N : Nat} {now : Int} {n : Nat} {l : List Ent} (h : ExI W wr c gm F M N now n l) (hl : ∀ e ∈ l, now < e.t) : Ca wr c F (expF M now) N ∧ n = M.length - (expF M now).length ∧ n ≤ M.length := by
  obtain ⟨o, v, D, P, hc, hp, hP, hn⟩ := h.ex
  have h1 : (l.map pr).Perm (expF M now) := by
    have h2 := hp.filter (fun p => decide (now < p.2))
    rw [List.filter_append] at h2
    have h3 : (l.map pr).filter (fun p => decide (now < p.2)) = l.map pr := by
      rw [List.filter_eq_self]
      intro p hp
      obtain ⟨e, he, rfl⟩ := List.mem_map.1 hp
      exact decide_eq_true (hl e he)
    have h4 : P.filter (fun p => decide (now < p.2)) = [] := by
      rw [List.filter_eq_nil_iff]
      intro p hp
      have := hP p hp
      simp only [decide_eq_true_eq]
      omega
    rw [h3, h4, List.append_nil] at h2
    exact h2
  refine ⟨⟨gm, o, v, l, D, hc.q, hc.own, hc.map, hc.kd, hc.hp, h1, hc.ok⟩, ?_, ?_⟩
  · have := h1.length_eq
    have := hp.length_eq
    rw [List.length_append] at this
    omega
  · have := hp.length_eq
    rw [List.length_append] at this
    omega
theorem drop_at {W : World} {gm N : Nat} {D : DataW Unit} (h : W.ownsMap Try.prog 9 ptrRead gm N D) {k : ByteArray} (hk : k.size ≤ maxLen) : ∃ w2, (∀ ty, (Builtin.delete_ #[47, 9] ty #[.map (some gm), .string k]).run Try.prog W.drew = .ok (.tuple #[]) w2) ∧ w2.ownsMap Try.prog 9 ptrRead gm N (D.del (kk k)) ∧ W.grownBy w2 (some gm) := by
  have hd : W.drew.ownsMap Try.prog 9 ptrRead gm N D := h.drew
  obtain ⟨w2, h1, h2, h3⟩ := hd.drop keyed9 Try.underlying47 (keyOf9 hk) 0
  have hg := h3.grown
  exact ⟨w2, fun ty => h1, h2, hg.os, hg.tape, hg.output, hg.size, hg.block⟩
theorem Cb.pop {W wr w1 w2 : World} {c gm : Nat} {o : Obj} {F : Nat → Prop} {v v1 : Value} {l l1 : List Ent} {D : DataW Unit} {M P : List (ByteArray × Int)} {N n : Nat} {now : Int} (h : Cb wr c gm o F v l D (l.map pr) N) (hp : (l.map pr ++ P).Perm M) (hP : ∀ p ∈ P, p.2 ≤ now) (hn : P.length = n) (hm : Mvs F W wr)
    (hl : 0 < l.length) (ht : (at_ l 0).t ≤ now) (hq1 : Qu w1 c gm o F v1 l1) (hp1 : l1.Perm l.tail) (hh1 : HeapN lessE l1 l1.length) (hm1 : Mvs F wr w1) (ho2 : w2.ownsMap Try.prog 9 ptrRead gm N (D.del (kk (at_ l 0).k))) (hg2 : w1.grownBy w2 (some gm)) : ExI W w2 c gm F M N now (n + 1) l1 := by
  have hcons : l = at_ l 0 :: l.tail := by
    cases l with
    | nil => simp at hl
    | cons x tl => rfl
  generalize at_ l 0 = e at *
  generalize l.tail = tl at *
  subst hcons
  obtain ⟨es, cl, hes, hrest⟩ := ho2
  have hkd := h.kd
  rw [List.map_cons, List.nodup_cons] at hkd
  have hne : ∀ x ∈ tl, x.k ≠ e.k := fun x hx he => hkd.1 (List.mem_map.2 ⟨x, hx, he⟩)
  refine ⟨⟨.map es cl, v1, _, pr e :: P, ⟨hq1.remap hg2 hes ⟨_, _, rfl⟩, ⟨es, cl, hes, hrest⟩, (h.map.del hne).perm hp1, (hp1.map Ent.k).nodup_iff.2 hkd.2, hh1, List.Perm.refl _, fun x hx => h.ok x (List.mem_cons_of_mem _ (hp1.mem_iff.1 hx))⟩, ?_, ?_, by simp [hn]⟩, (hm.trans' hm1).grown hg2 (fun j hj => by injection hj with hj; rw [← hj]; exact h.q.fm)⟩
  · refine List.Perm.trans ?_ hp
    rw [List.map_cons, List.cons_append]
    refine List.perm_middle.trans (List.Perm.cons _ ?_)
    exact (hp1.map pr).append_right _
  · intro p hp'
    rcases List.mem_cons.1 hp' with rfl | hp'
    · exact ht
    · exact hP p hp'
set_option maxHeartbeats 4000000 in
theorem expire_calls {W : World} {c : Nat} {F : Nat → Prop} {M : List (ByteArray × Int)} {N : Nat} (h : Ca W c F M N) (hN : N ≤ 4096) (now : Int) :
    Calls Try.prog 17 #[.pointer (some ⟨c, 0, none⟩), .int .u64 now] W fun e w' => e = .returned (.int .i64 ((M.length - (expF M now).length : Nat) : Int)) ∧ Ca w' c F (expF M now) N ∧ Mvs F W w' := by
  obtain ⟨gm, o, v, l, D, h⟩ := h
  have HI : Aside0 (ExI W W c gm F M N now 0 l) := ⟨⟨⟨o, v, D, [], ⟨h.q, h.own, h.map, h.kd, h.hp, List.Perm.refl _, h.ok⟩, by rw [List.append_nil]; exact h.pm, fun p hp => by simp at hp, rfl⟩, Mvs.refl _⟩⟩
  have hML : M.length ≤ 4096 := by rw [← h.pm.length_eq, List.length_map]; have := h.lN; omega
  clear h
  go_enter Try.func17, Try.ntmps17
  go_wp2_with (fail)
  go_loopg [5] l.length (fun k v1 wr => ∃ (n : Nat) (l' : List Ent), v1 = .int .i64 (n : Int) ∧ l'.length = k ∧ Aside0 (ExI W wr c gm F M N now n l'))
  case atStart => exact ⟨0, l, rfl, rfl, HI⟩
  case round =>
    obtain ⟨n, l', rfl, rfl, HX⟩ := hrel
    obtain ⟨o', v', D', P, hc, hp, hP, hn⟩ := HX.out.ex
    have cQ := hc.q.cell1
    have c0 := hc.q.cell0
    have hnM : n + l'.length = M.length := by
      have := hp.length_eq
      rw [List.length_append, List.length_map] at this
      omega
    by_cases hl : 0 < l'.length
    · obtain ⟨g, cap, rfl⟩ := hc.q.slot hl
      have cq := hc.q.cellq hl
      obtain ⟨e0, e1, e2⟩ := hc.q.celle hl
      simp only [pv] at *
      have hz : (0 : Int) < (l'.length : Int) := by omega
      by_cases ht : (at_ l' 0).t ≤ now
      · obtain ⟨m, hm⟩ : ∃ m, m + 1 = l'.length := ⟨l'.length - 1, by omega⟩
        have HC := Aside0.mk (hpop_calls hc.q hm hc.hp)
        have hta := ta54 (at_ l' 0).b
        have HB := Aside0.mk hc
        have HP := Aside0.mk (And.intro hp (And.intro hP hn))
        have hn1 : n + 1 ≤ 4096 := by omega
        clear hc hp hP hn
        obtain ⟨B, hBe⟩ : ∃ B, (at_ l' 0).b = B := ⟨_, rfl⟩
        rw [hBe] at HC hta e0 e1 e2 cq
        go_wp2_with (first
          | (go_at_call 22; refine HC.out.mono ?_; rintro r w1 ⟨rfl, v1, l1, hq1, hp1, hh1, hk1, hm1⟩; replace hm1 := Aside0.mk hm1; replace hp1 := Aside0.mk hp1; have cm1 := hq1.cell0; obtain ⟨w2, hdl, ho2, hg2⟩ := drop_at (own_at HB.out.own HB.out.q.mp hq1.mp) (HB.out.ok _ (at_mem (i := 0) (by omega))).1; replace hq1 := Aside0.mk hq1; replace ho2 := Aside0.mk ho2; replace hg2 := Aside0.mk hg2; replace hh1 := Aside0.mk hh1))
        go_region
        all_goals
          go_wp2
          go_roundg l1.length
          case measure => rw [hp1.out.length_eq, List.length_tail]; omega
          case rel => exact ⟨n + 1, l1, by simp, rfl, ⟨HB.out.pop HP.out.1 HP.out.2.1 HP.out.2.2 HX.out.mv hl ht hq1.out hp1.out hh1.out hm1.out ho2.out hg2.out⟩⟩
      · have hd := HX.out.done (fun e he => by
          have hmin := (hc.next hl)
          rcases hmin with ⟨h1, _⟩ | ⟨_, _, h3⟩
          · have := congrArg List.length h1; rw [List.length_map, List.length_nil] at this; omega
          · have := h3 (pr e) (List.mem_map.2 ⟨e, he, rfl⟩)
            have h4 : lessE e (at_ l' 0) = false := this
            rw [← Bool.not_eq_true, less_iff] at h4
            have h5 : ¬ e.t < (at_ l' 0).t := fun x => h4 (.inl x)
            omega)
        have HD := Aside0.mk hd
        clear hd hc
        go_wp2_with (fail)
        go_ret
        refine ⟨?_, HD.out.1, HX.out.mv⟩
        rw [← HD.out.2.1]
        rfl
    · have hl0 : l'.length = 0 := by omega
      obtain rfl := List.length_eq_zero_iff.1 hl0
      obtain ⟨A, cap, rfl⟩ := hc.q.form
      have HD := Aside0.mk (HX.out.done (fun e he => by simp at he))
      rw [hl0] at cQ
      clear hc
      go_wp2_with (fail)
      go_ret
      refine ⟨?_, HD.out.1, HX.out.mv⟩
      rw [← HD.out.2.1]
      rfl
end Go.Proofs.Ytkomjplajfjpkaa.Ext
