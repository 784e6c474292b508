/- ShaPieces: what it holds stays, by hand. -/
import Derived.Test.YtanafhccflmdkaaDoorPieA
namespace Go.Proofs.YtanafhccflmdkaaDoor.Ext
open Go.RowKit Go.Proofs.YtanafhccflmdkaaDoorW.PrintWords Go.Proofs.YtanafhccflmdkaaDoorW.PrintLast Go.Proofs.YtanafhccflmdkaaDoorW.PrintMore
set_option linter.unusedVariables false
set_option linter.unusedSimpArgs false
/-- The state's variable, the row of states, the row of digests, all bytes, the piece. -/
structure PI (w W : World) (ok okp : Nat → Prop) (g4 : Nat) (vs vu va vp : Value) (S : Sta) (Xs Us : List (List Value)) (al pl : List Int) : Prop where
  bel : Below w.heap.size w W
  blk : W.heap[g4]? = some (.cells (sv S) 40 (0, 0))
  rs : (Kd.raw 73).R 40 W w.heap.size ok vs Xs
  ru : (Kd.raw 32).R 25 W w.heap.size ok vu Us
  ra : Kd.R (Kd.int .u8) 5 W w.heap.size ok va al
  rp : Kd.R (Kd.int .u8) 5 W w.heap.size okp vp pl
  no : ¬ ok g4
  nop : ¬ okp g4
  dis : ∀ k, ok k → okp k → False
  fresh : ∀ k, W.heap.size ≤ k → ok k
  lo : w.heap.size ≤ g4
section
variable {w W W' : World} {ok okp : Nat → Prop} {g4 : Nat} {vs vu va vp v1 : Value} {S S' : Sta} {Xs Us : List (List Value)} {al pl : List Int} {c : List Value}
theorem PI.then_ (h : PI w W ok okp g4 vs vu va vp S Xs Us al pl) (hb : Below W.heap.size W W') : PI w W' ok okp g4 vs vu va vp S Xs Us al pl :=
  ⟨below_step h.bel hb, blk_below h.blk hb, Kd.R_below h.rs hb, Kd.R_below h.ru hb, Kd.R_below h.ra hb, Kd.R_below h.rp hb, h.no, h.nop, h.dis, fun k hk => h.fresh k (Nat.le_trans hb.size hk), h.lo⟩
theorem ne_own {α : Type} {d : Kd α} {e base : Nat} {ok : Nat → Prop} {v : Value} {xs : List α} {k : Nat} (h : d.R e W base ok v xs) (hn : ¬ ok k) : some k ≠ v.ownBlock := fun he => hn (h.1 k he.symm)
theorem PI.appS (h : PI w W ok okp g4 vs vu va vp S Xs Us al pl) (hR : (Kd.raw 73).R 40 W' w.heap.size ok v1 (Xs ++ [c])) (hb : Below w.heap.size w W') (hg : W.grownBy W' vs.ownBlock) : PI w W' ok okp g4 v1 vu va vp S (Xs ++ [c]) Us al pl :=
  ⟨hb, (hg.block g4 (blk_lt h.blk) (ne_own h.rs h.no)).trans h.blk, hR,
    Kd.R_mono (Kd.R_grown (Kd.R_apartR h.ru h.rs (by intro q hq; simp [Kd.raw] at hq; omega)) hg (fun k hk => hk.2)) (fun k hk => hk.1),
    Kd.R_mono (Kd.R_grown (Kd.R_apartR h.ra h.rs (by intro q hq; simp [Kd.int, Kd.scalar] at hq; omega)) hg (fun k hk => hk.2)) (fun k hk => hk.1),
    Kd.R_grown h.rp hg (fun k hk => ne_own h.rs (fun hk' => h.dis k hk' hk)), h.no, h.nop, h.dis, fun k hk => h.fresh k (Nat.le_trans hg.size hk), h.lo⟩
theorem PI.appU (h : PI w W ok okp g4 vs vu va vp S Xs Us al pl) (hR : (Kd.raw 32).R 25 W' w.heap.size ok v1 (Us ++ [c])) (hb : Below w.heap.size w W') (hg : W.grownBy W' vu.ownBlock) : PI w W' ok okp g4 vs v1 va vp S Xs (Us ++ [c]) al pl :=
  ⟨hb, (hg.block g4 (blk_lt h.blk) (ne_own h.ru h.no)).trans h.blk,
    Kd.R_mono (Kd.R_grown (Kd.R_apartR h.rs h.ru (by intro q hq; simp [Kd.raw] at hq; omega)) hg (fun k hk => hk.2)) (fun k hk => hk.1), hR,
    Kd.R_mono (Kd.R_grown (Kd.R_apartR h.ra h.ru (by intro q hq; simp [Kd.int, Kd.scalar] at hq; omega)) hg (fun k hk => hk.2)) (fun k hk => hk.1),
    Kd.R_grown h.rp hg (fun k hk => ne_own h.ru (fun hk' => h.dis k hk' hk)), h.no, h.nop, h.dis, fun k hk => h.fresh k (Nat.le_trans hg.size hk), h.lo⟩
theorem PI.appA {bl : List Int} (h : PI w W ok okp g4 vs vu va vp S Xs Us al pl) (hR : Kd.R (Kd.int .u8) 5 W' w.heap.size ok v1 bl) (hb : Below w.heap.size w W') (hg : W.grownBy W' va.ownBlock) : PI w W' ok okp g4 vs vu v1 vp S Xs Us bl pl :=
  ⟨hb, (hg.block g4 (blk_lt h.blk) (ne_own h.ra h.no)).trans h.blk,
    Kd.R_mono (Kd.R_grown (Kd.R_apartR h.rs h.ra (by intro q hq; simp [Kd.raw] at hq; omega)) hg (fun k hk => hk.2)) (fun k hk => hk.1),
    Kd.R_mono (Kd.R_grown (Kd.R_apartR h.ru h.ra (by intro q hq; simp [Kd.raw] at hq; omega)) hg (fun k hk => hk.2)) (fun k hk => hk.1), hR,
    Kd.R_grown h.rp hg (fun k hk => ne_own h.ra (fun hk' => h.dis k hk' hk)), h.no, h.nop, h.dis, fun k hk => h.fresh k (Nat.le_trans hg.size hk), h.lo⟩
/-- The piece is written. -/
theorem PI.setP {ql : List Int} {gp : Nat} (h : PI w W ok okp g4 vs vu va vp S Xs Us al pl) (hp : okp gp) (hgp : w.heap.size ≤ gp) (hR : Kd.R (Kd.int .u8) 5 W' w.heap.size okp vp ql) (hg : W.grownBy W' (some gp)) : PI w W' ok okp g4 vs vu va vp S Xs Us al ql :=
  ⟨h.bel.trans (gr_below hg hgp h.bel.size), gr_blk hg h.blk (fun e => h.nop (e ▸ hp)), Kd.R_grown h.rs hg (fun k hk he => h.dis k hk (by injection he with he; exact he ▸ hp)), Kd.R_grown h.ru hg (fun k hk he => h.dis k hk (by injection he with he; exact he ▸ hp)),
    Kd.R_grown h.ra hg (fun k hk he => h.dis k hk (by injection he with he; exact he ▸ hp)), hR, h.no, h.nop, h.dis, fun k hk => h.fresh k (Nat.le_trans hg.size hk), h.lo⟩
/-- The state is stored. -/
theorem PI.setS (h : PI w W ok okp g4 vs vu va vp S Xs Us al pl) (hc : W'.heap[g4]? = some (.cells (sv S') 40 (0, 0))) (hg : W.grownBy W' (some g4)) : PI w W' ok okp g4 vs vu va vp S' Xs Us al pl :=
  ⟨h.bel.trans (gr_below hg h.lo h.bel.size), hc, Kd.R_grown h.rs hg (fun k hk he => h.no (by injection he with he; exact he ▸ hk)), Kd.R_grown h.ru hg (fun k hk he => h.no (by injection he with he; exact he ▸ hk)),
    Kd.R_grown h.ra hg (fun k hk he => h.no (by injection he with he; exact he ▸ hk)), Kd.R_grown h.rp hg (fun k hk he => h.nop (by injection he with he; exact he ▸ hk)), h.no, h.nop, h.dis, fun k hk => h.fresh k (Nat.le_trans hg.size hk), h.lo⟩
/-- The piece is new. -/
theorem PI.newP {gp : Nat} (h : PI w W (fun k => k ≠ g4) (fun _ => False) g4 vs vu va (.slice none 0 0) S Xs Us al []) (hb : Below W.heap.size W W') (hgp : W.heap.size ≤ gp) (hgl : gp < W'.heap.size) (hp : v1.ownBlock = some gp) (hR : Kd.R (Kd.int .u8) 5 W' w.heap.size (fun _ => True) v1 pl) :
    PI w W' (fun k => k ≠ g4 ∧ k ≠ gp) (fun k => k = gp) g4 vs vu va v1 S Xs Us al pl := by
  have h4 := blk_lt h.blk
  exact ⟨below_step h.bel hb, blk_below h.blk hb, Kd.R_below (Kd.R_elderB h.rs gp hgp) hb, Kd.R_below (Kd.R_elderB h.ru gp hgp) hb, Kd.R_below (Kd.R_elderB h.ra gp hgp) hb,
    Kd.R_of_own (Kd.own_of_R hR) (fun k hk => by rw [hp] at hk; injection hk with hk; exact hk.symm), fun h => h.1 rfl, fun h => by omega, fun k h1 h2 => h1.2 h2, fun k hk => ⟨by have := hb.size; omega, by omega⟩, h.lo⟩
/-- The piece is forgotten. -/
theorem PI.noP {ok okp : Nat → Prop} (h : PI w W ok okp g4 vs vu va vp S Xs Us al pl) : PI w W (fun k => k ≠ g4) (fun _ => False) g4 vs vu va (.slice none 0 0) S Xs Us al [] :=
  have hm : ∀ k, ok k → k ≠ g4 := fun k hk he => h.no (he ▸ hk)
  ⟨h.bel, h.blk, Kd.R_mono h.rs hm, Kd.R_mono h.ru hm, Kd.R_mono h.ra hm, Kd.R_nil _ _ _ _ _, fun h => h rfl, fun h => h, fun k _ h => h, fun k hk => by have := blk_lt h.blk; omega, h.lo⟩
end
end Go.Proofs.YtanafhccflmdkaaDoor.Ext
