/- Values, the reference: times with second -/
import Derived.Test.YtdkhkfdenlabaaaGreatDoorVGG
import Derived.Test.YtdkhkfdenlabaaaGreatDoorVGZ
set_option linter.unusedSimpArgs false
set_option linter.unusedVariables false
set_option maxRecDepth 100000
set_option maxHeartbeats 64000000
namespace Go.Proofs.YtdkhkfdenlabaaaGreatDoor
open Go.Proofs.Tryz
open Go.RowKit
open Sym
attribute [local irreducible] Calls Sym.bM ae.nd ae.bu ae.upd ae.ak ae.ay
theorem zk {C : Ctx} {I : Act -> World -> Prop} {fr : List (Nat × SV)} {rows : List (Nat × Bool × aV)} {nx n : Nat} (i : Nat) (Φ : Nat -> Option Obj -> Prop) (h : nV C I ⟨fr, (i, false, .aK Φ) :: rows, nx, n⟩)
 (e : ∃ j, get rows j = some (false, .aK Φ) /\ Nat.beq i j = false := by first | exact ⟨5, rfl, rfl⟩ | exact ⟨6, rfl, rfl⟩ | exact ⟨7, rfl, rfl⟩ | exact ⟨8, rfl, rfl⟩ | exact ⟨9, rfl, rfl⟩ | exact ⟨10, rfl, rfl⟩ | exact ⟨11, rfl, rfl⟩ | exact ⟨12, rfl, rfl⟩ | exact ⟨13, rfl, rfl⟩ | exact ⟨14, rfl, rfl⟩ | exact ⟨15, rfl, rfl⟩ | exact ⟨16, rfl, rfl⟩ | exact ⟨17, rfl, rfl⟩ | exact ⟨18, rfl, rfl⟩)
 (hi : Nat.blt i nx = true := by rfl) (hn0 : C.w0.n0 <= i := by exact Nat.zero_le _) (hno : (wG i fr || rP i rows) = false := by kernel_rfl) : nV C I ⟨fr, rows, nx, n⟩ := by
 obtain ⟨j, h1, h2⟩ := e
 exact ai i j h1 hi h2 hn0 hno h
section
variable (s : List UInt8) (l : List (List UInt8)) (w : World) (hw0 : 0 < w.heap.size)
 (hS : ∀ w' : World, Calls Tryz.prog 126 #[.string (ah s), .int .u8 58] w' (fun e w'' => BW w' w'' /\ ∃ t : Nat × Nat, e = .returned (.slice (some ⟨t.1, 0, none⟩) (l).length t.2) /\ ∀ q ∈ [((some ⟨t.1, 0, none⟩ : Option Addr), bP l)], aS q.1 q.2 w'' /\ bz q.1 q.2 w'))
include hw0 hS
variable (a b : List UInt8) (hl : l.length = 2 \/ l.length = 3) (hx0 : (bP l)[0]? = some (.string (ah a))) (hx1 : (bP l)[1]? = some (.string (ah b)))
 (A0 : ∀ w' : World, QC 127 #[.string (ah a)] w' (.bool (af.fJ a)))
 (A1 : ∀ w' : World, QC 127 #[.string (ah b)] w' (.bool (af.fJ b)))
 (M0 : af.fJ a = true -> a.length <= 2 -> ∀ w' : World, QC 132 #[.string (ah a)] w' (.int .i64 (ae.ax a : Nat)))
 (M1 : af.fJ b = true -> b.length = 2 -> ∀ w' : World, QC 132 #[.string (ah b)] w' (.int .i64 (ae.ax b : Nat)))
include hl hx0 hx1 A0 A1 M0 M1
variable (va vb N : Nat) (d0 : af.fJ a = true) (d1 : af.fJ b = true) (la : a.length <= 2) (lb : b.length = 2) (hva : ae.ax a = va) (hvb : ae.ax b = vb) (b0 : va <= 23) (b1 : vb <= 59)
 (hW : ∀ w' : World, BW w w' -> Calls Tryz.prog 78 #[.int .i64 (3600 * (va : Int) + 60 * (vb : Int))] w' (fF .i64 10 ⟨false, N, 1⟩ w'))
 (hG : ∀ w' : World, BW w w' -> Calls Tryz.prog 78 #[.int .i64 86400] w' (fF .i64 10 ⟨false, 86400, 1⟩ w'))
include d0 d1 la lb hva hvb b0 b1 hW hG
variable (c x : List UInt8) (l2 : List (List UInt8)) (h3 : l.length = 3) (hx2 : (bP l)[2]? = some (.string (ah c)))
 (hS2 : ∀ w' : World, Calls Tryz.prog 126 #[.string (ah c), .int .u8 46] w' (fun e w'' => BW w' w'' /\ ∃ t : Nat × Nat, e = .returned (.slice (some ⟨t.1, 0, none⟩) (l2).length t.2) /\ ∀ q ∈ [((some ⟨t.1, 0, none⟩ : Option Addr), bP l2)], aS q.1 q.2 w'' /\ bz q.1 q.2 w'))
 (hl2 : 1 <= l2.length) (hy0 : (bP l2)[0]? = some (.string (ah x)))
 (A2 : ∀ w' : World, QC 127 #[.string (ah x)] w' (.bool (af.fJ x)))
 (M2 : af.fJ x = true -> x.length = 2 -> ∀ w' : World, QC 132 #[.string (ah x)] w' (.int .i64 (ae.ax x : Nat)))
 (q : List UInt8) (hy1 : l2.length = 2 -> (bP l2)[1]? = some (.string (ah q)))
 (A3 : ∀ w' : World, QC 127 #[.string (ah q)] w' (.bool (af.fJ q)))
include h3 hx2 hS2 hl2 hy0 A2 M2 hy1 A3
variable (vx N1 : Nat) (d2 : af.fJ x = true) (lx : x.length = 2) (YZ : ae.ax x = vx) (b2 : vx <= 59)
 (YE : ∀ w' : World, BW w w' -> Calls Tryz.prog 78 #[.int .i64 (vx : Nat)] w' (fF .i64 10 ⟨false, vx, 1⟩ w'))
 (hAd : ∀ (x y : bI) (w' : World), BW w w' -> aX .i64 10 x w' -> aX .i64 10 y w' -> x.num = ⟨false, N, 1⟩ -> y.num = ⟨false, vx, 1⟩ -> Calls Tryz.prog 131 #[x.val 10, y.val 10] w' (fF .i64 10 ⟨false, N1, 1⟩ w'))
include d2 lx YZ b2 YE hAd
theorem PN (hn1 : l2.length = 1) (hU : ∀ (x y : bI) (w' : World), BW w w' -> aX .i64 10 x w' -> aX .i64 10 y w' -> x.num = ⟨false, N1, 1⟩ -> y.num = ⟨false, 1, 86400⟩ -> Calls Tryz.prog 133 #[x.val 10, y.val 10] w' (fF .i64 10 ⟨false, N1, 86400⟩ w')) : Calls Tryz.prog 66 #[.string (ah s)] w (dU .i64 10 ⟨false, N1, 86400⟩ true w) := by
 have _u := And.intro hl (And.intro hl2 (And.intro hy1 A3))
 rw [d0] at A0
 rw [d1] at A1
 replace M0 := M0 d0 la
 replace M1 := M1 d1 lb
 rw [hva] at M0
 rw [hvb] at M1
 rw [d2] at A2
 replace M2 := M2 d2 lx
 rw [YZ] at M2
 generalize hn : l.length = n at *
 refine yE func66 rfl results66 ntmps66 [] [300004] [.str s] w ?_
 repeat' (first | exact ⟨⟩ | refine yG ?_ ?_ | (refine bT (T := Nat × Nat) (fun t => .any (.slice (some ⟨t.1, 0, none⟩) n t.2)) (fun t => [(some ⟨t.1, 0, none⟩, bP l)]) hw0 (by kernel_rfl) rfl (fun _ => rfl) (fun β w' hm => hS w') (fun p _ => ?_)) | refine yA (.lit true) (fun _ => A0) ?_ | refine yA (.lit true) (fun _ => A1) ?_ | refine yA (.int .i64 (va : Nat)) (fun _ => M0) ?_ | refine yA (.int .i64 (vb : Nat)) (fun _ => M1) ?_ | refine yO (aJ underlying121) ?_ | refine yN (j := 0) underlying121 sizeOf9 ?_ | refine yN (j := 1) underlying121 sizeOf9 ?_ | refine yO (v := .str a) (aP 1 (.str a) (fun w => isAgg9 w) rfl (fun β => hx0)) ?_ | refine yO (v := .str b) (aP 1 (.str b) (fun w => isAgg9 w) rfl (fun β => hx1)) ?_ | intro _)
 all_goals first | (exfalso; omega) | skip
 refine iM 3 hw0 ?_
 refine yJ (T := {t : Option Addr × Nat × Option Addr × Nat // iw 10 ⟨false, N, 1, t.1, t.2.1, t.2.2.1, t.2.2.2⟩}) (fun t => ⟨[(2, .ptr 0 0), (4, .any (.slice (some ⟨p.1, 0, none⟩) n p.2)), (5, .ptr 2 0)], [(0, true, .cells 72 [.lit false, .any (.slice none 0 0), .any (.slice none 0 0)]), (1, false, .aK (bV w.heap.size (some ⟨p.1, 0, none⟩) (bP l))), (2, true, .cells 72 [.bool false, .any (.slice t.1.1 (ae.nd 10 N) t.1.2.1), .any (.slice t.1.2.2.1 (ae.nd 10 1) t.1.2.2.2)]), (3, false, .aK (bV w.heap.size t.1.1 (nv .i64 10 N))), (4, false, .aK (bV w.heap.size t.1.2.2.1 (nv .i64 10 1)))], 5, 151⟩) [] [200004] [] [200009, 200012] (fun I2 hI2 => ?_) (fun t => ?_)
 ·repeat' (first | exact ⟨⟩ | refine yG ?_ ?_ | refine yA (.int .i64 (va : Nat)) (fun _ => M0) ?_ | refine yA (.int .i64 (vb : Nat)) (fun _ => M1) ?_ | (refine dF .i64 10 ⟨false, N, 1⟩ hw0 (by kernel_rfl) rfl (fun β w' hm => hW w' hm.below) (fun a5 c5 a6 c6 hc5 => ?_)) | ((with_reducible show ∃ _ : SV, _); first | refine yN (j := 0) underlying121 sizeOf9 ?_ | refine yN (j := 1) underlying121 sizeOf9 ?_ | refine yO (v := .str a) (aP 1 (.str a) (fun w => isAgg9 w) rfl (fun β => hx0)) ?_ | refine yO (v := .str b) (aP 1 (.str b) (fun w => isAgg9 w) rfl (fun β => hx1)) ?_ | (refine ⟨.int .i64 (va : Nat), by kernel_rfl, trivial, fun β w hm => M0 w, ?_⟩) | (refine ⟨.int .i64 (vb : Nat), by kernel_rfl, trivial, fun β w hm => M1 w, ?_⟩)) | intro _)
  all_goals refine qY 5 2 rfl rfl rfl (Nat.zero_le _) ?_
  all_goals refine zk 3 (bV w.heap.size a5 (nv .i64 10 (N))) ?_
  all_goals refine zk 4 (bV w.heap.size a6 (nv .i64 10 (1))) ?_
  all_goals exact hI2 _ ⟨(a5, c5, a6, c6), hc5⟩ (by dsimp only; ((with_reducible show wk _ _); repeat' (first | exact trivial | exact au _ | refine eY ?_ | refine eqS ?_ | apply And.intro | exact yV | fail)); all_goals exact fun b x h => h)
 obtain ⟨⟨ta, tc, tb, te⟩, hct⟩ := t
 dsimp only at hct ⊢
 repeat' (first | exact ⟨⟩ | refine yG ?_ ?_ | (refine bT (T := Nat × Nat) (fun t => .any (.slice (some ⟨t.1, 0, none⟩) l2.length t.2)) (fun t => [(some ⟨t.1, 0, none⟩, bP l2)]) hw0 (by kernel_rfl) rfl (fun _ => rfl) (fun β w' hm => hS2 w') (fun p2 _ => ?_)) | refine yA (.lit true) (fun _ => A2) ?_ | refine yA (.int .i64 (vx : Nat)) (fun _ => M2) ?_ | (refine dF .i64 10 ⟨false, vx, 1⟩ hw0 (by kernel_rfl) rfl (fun β w' hm => YE w' hm.below) (fun xa xc xb xe hcx => ?_)) | (refine dF .i64 10 ⟨false, N1, 1⟩ hw0 (by kernel_rfl) rfl (fun β w' hm => hAd ⟨false, N, 1, ta, tc, tb, te⟩ ⟨false, vx, 1, xa, xc, xb, xe⟩ w' hm.below (aX.of (df hm) (df hm) hct) (aX.of (df hm) (df hm) hcx) rfl rfl) (fun sa sc sb se hcs => ?_)) | (refine dF .i64 10 ⟨false, 86400, 1⟩ hw0 (by kernel_rfl) rfl (fun β w' hm => hG w' hm.below) (fun a7 c7 a8 c8 Nw => ?_)) | refine yK (.agg [.bool false, .any (.slice a8 (ae.nd 10 1) c8), .any (.slice a7 (ae.nd 10 86400) c7)]) (fun β w hm => CG false a7 a8 _ _ _ _ w) ?_ | (refine dF .i64 10 ⟨false, N1, 86400⟩ hw0 (by kernel_rfl) rfl (fun β w' hm => hU ⟨false, N1, 1, sa, sc, sb, se⟩ ⟨false, 1, 86400, a8, c8, a7, c7⟩ w' hm.below (aX.of (df hm) (df hm) hcs) (aX.of (df hm) (df hm) ⟨Nw.2, Nw.1, Nw.4, Nw.3⟩) rfl rfl) (fun ra rc rb re hcr => ?_)) | refine yO (aJ underlying121) ?_ | refine yN (j := 0) underlying121 sizeOf9 ?_ | refine yN (j := 1) underlying121 sizeOf9 ?_ | refine yN (j := 2) underlying121 sizeOf9 ?_ | refine yO (v := .str c) (aP 1 (.str c) (fun w => isAgg9 w) rfl (fun β => hx2)) ?_ | refine yO (v := .str x) (aP 5 (.str x) (fun w => isAgg9 w) rfl (fun β => hy0)) ?_ | intro _)
 all_goals first | (exfalso; omega) | (refine ret fun β w' hm => ?_; exact ⟨⟨false, N1, 86400, ra, rc, rb, re⟩, rfl, rfl, hcr, oK (df hm) (nS hm) (df hm) (nS hm), hm.below⟩)
end
section
variable (s : List UInt8) (l : List (List UInt8)) (w : World) (hw0 : 0 < w.heap.size)
 (hS : ∀ w' : World, Calls Tryz.prog 126 #[.string (ah s), .int .u8 58] w' (fun e w'' => BW w' w'' /\ ∃ t : Nat × Nat, e = .returned (.slice (some ⟨t.1, 0, none⟩) (l).length t.2) /\ ∀ q ∈ [((some ⟨t.1, 0, none⟩ : Option Addr), bP l)], aS q.1 q.2 w'' /\ bz q.1 q.2 w'))
include hw0 hS
variable (a b : List UInt8) (hl : l.length = 2 \/ l.length = 3) (hx0 : (bP l)[0]? = some (.string (ah a))) (hx1 : (bP l)[1]? = some (.string (ah b)))
 (A0 : ∀ w' : World, QC 127 #[.string (ah a)] w' (.bool (af.fJ a)))
 (A1 : ∀ w' : World, QC 127 #[.string (ah b)] w' (.bool (af.fJ b)))
 (M0 : af.fJ a = true -> a.length <= 2 -> ∀ w' : World, QC 132 #[.string (ah a)] w' (.int .i64 (ae.ax a : Nat)))
 (M1 : af.fJ b = true -> b.length = 2 -> ∀ w' : World, QC 132 #[.string (ah b)] w' (.int .i64 (ae.ax b : Nat)))
include hl hx0 hx1 A0 A1 M0 M1
variable (va vb N : Nat) (d0 : af.fJ a = true) (d1 : af.fJ b = true) (la : a.length <= 2) (lb : b.length = 2) (hva : ae.ax a = va) (hvb : ae.ax b = vb) (b0 : va <= 23) (b1 : vb <= 59)
 (hW : ∀ w' : World, BW w w' -> Calls Tryz.prog 78 #[.int .i64 (3600 * (va : Int) + 60 * (vb : Int))] w' (fF .i64 10 ⟨false, N, 1⟩ w'))
 (hG : ∀ w' : World, BW w w' -> Calls Tryz.prog 78 #[.int .i64 86400] w' (fF .i64 10 ⟨false, 86400, 1⟩ w'))
include d0 d1 la lb hva hvb b0 b1 hW hG
variable (c x : List UInt8) (l2 : List (List UInt8)) (h3 : l.length = 3) (hx2 : (bP l)[2]? = some (.string (ah c)))
 (hS2 : ∀ w' : World, Calls Tryz.prog 126 #[.string (ah c), .int .u8 46] w' (fun e w'' => BW w' w'' /\ ∃ t : Nat × Nat, e = .returned (.slice (some ⟨t.1, 0, none⟩) (l2).length t.2) /\ ∀ q ∈ [((some ⟨t.1, 0, none⟩ : Option Addr), bP l2)], aS q.1 q.2 w'' /\ bz q.1 q.2 w'))
 (hl2 : 1 <= l2.length) (hy0 : (bP l2)[0]? = some (.string (ah x)))
 (A2 : ∀ w' : World, QC 127 #[.string (ah x)] w' (.bool (af.fJ x)))
 (M2 : af.fJ x = true -> x.length = 2 -> ∀ w' : World, QC 132 #[.string (ah x)] w' (.int .i64 (ae.ax x : Nat)))
 (q : List UInt8) (hy1 : l2.length = 2 -> (bP l2)[1]? = some (.string (ah q)))
 (A3 : ∀ w' : World, QC 127 #[.string (ah q)] w' (.bool (af.fJ q)))
include h3 hx2 hS2 hl2 hy0 A2 M2 hy1 A3
variable (vx N1 : Nat) (d2 : af.fJ x = true) (lx : x.length = 2) (YZ : ae.ax x = vx) (b2 : vx <= 59)
 (YE : ∀ w' : World, BW w w' -> Calls Tryz.prog 78 #[.int .i64 (vx : Nat)] w' (fF .i64 10 ⟨false, vx, 1⟩ w'))
 (hAd : ∀ (x y : bI) (w' : World), BW w w' -> aX .i64 10 x w' -> aX .i64 10 y w' -> x.num = ⟨false, N, 1⟩ -> y.num = ⟨false, vx, 1⟩ -> Calls Tryz.prog 131 #[x.val 10, y.val 10] w' (fF .i64 10 ⟨false, N1, 1⟩ w'))
include d2 lx YZ b2 YE hAd
theorem Tn (hn2 : l2.length = 2) (d3 : af.fJ q = true) (lq : q.length <= 9) (vq N2 T Q : Nat)
  (hNq : ∀ w' : World, Calls Tryz.prog 130 #[.string (ah q)] w' (iT .i64 10 vq w'))
  (ZW : ∀ (a : Option Addr) (c g : Nat) (w' : World), 0 < w'.heap.size -> aS (some ⟨g, 0, none⟩) [.int .i64 1] w' -> Calls Tryz.prog 129 #[.agg #[.bool false, .slice a (ae.nd 10 vq) c, .slice (some ⟨g, 0, none⟩) 1 1], .int .i64 (0 - (q.length : Int))] w' (NumOut .i64 10 T (fun a' c' => .agg #[.bool false, .slice a (ae.nd 10 vq) c, .slice a' (ae.nd 10 T) c']) w'))
  (hAq : ∀ (x y : bI) (w' : World), BW w w' -> aX .i64 10 x w' -> aX .i64 10 y w' -> x.num = ⟨false, N1, 1⟩ -> y.num = ⟨false, vq, T⟩ -> Calls Tryz.prog 131 #[x.val 10, y.val 10] w' (fF .i64 10 ⟨false, N2, T⟩ w'))
  (hU : ∀ (x y : bI) (w' : World), BW w w' -> aX .i64 10 x w' -> aX .i64 10 y w' -> x.num = ⟨false, N2, T⟩ -> y.num = ⟨false, 1, 86400⟩ -> Calls Tryz.prog 133 #[x.val 10, y.val 10] w' (fF .i64 10 ⟨false, N2, Q⟩ w')) : Calls Tryz.prog 66 #[.string (ah s)] w (dU .i64 10 ⟨false, N2, Q⟩ true w) := by
 have _u := And.intro hl hl2
 rw [d0] at A0
 rw [d1] at A1
 replace M0 := M0 d0 la
 replace M1 := M1 d1 lb
 rw [hva] at M0
 rw [hvb] at M1
 rw [d2] at A2
 replace M2 := M2 d2 lx
 rw [YZ] at M2
 rw [d3] at A3
 replace hy1 := hy1 hn2
 have hu := underlying70
 have hsz := fun w => sizeOf3 w
 have hzv := fun w => zeroValue3 w
 generalize hn : l.length = n at *
 refine yE func66 rfl results66 ntmps66 [] [300004] [.str s] w ?_
 repeat' (first | exact ⟨⟩ | refine yG ?_ ?_ | (refine bT (T := Nat × Nat) (fun t => .any (.slice (some ⟨t.1, 0, none⟩) n t.2)) (fun t => [(some ⟨t.1, 0, none⟩, bP l)]) hw0 (by kernel_rfl) rfl (fun _ => rfl) (fun β w' hm => hS w') (fun p _ => ?_)) | refine yA (.lit true) (fun _ => A0) ?_ | refine yA (.lit true) (fun _ => A1) ?_ | refine yA (.int .i64 (va : Nat)) (fun _ => M0) ?_ | refine yA (.int .i64 (vb : Nat)) (fun _ => M1) ?_ | refine yO (aJ underlying121) ?_ | refine yN (j := 0) underlying121 sizeOf9 ?_ | refine yN (j := 1) underlying121 sizeOf9 ?_ | refine yO (v := .str a) (aP 1 (.str a) (fun w => isAgg9 w) rfl (fun β => hx0)) ?_ | refine yO (v := .str b) (aP 1 (.str b) (fun w => isAgg9 w) rfl (fun β => hx1)) ?_ | intro _)
 all_goals first | (exfalso; omega) | skip
 refine iM 3 hw0 ?_
 refine yJ (T := {t : Option Addr × Nat × Option Addr × Nat // iw 10 ⟨false, N, 1, t.1, t.2.1, t.2.2.1, t.2.2.2⟩}) (fun t => ⟨[(2, .ptr 0 0), (4, .any (.slice (some ⟨p.1, 0, none⟩) n p.2)), (5, .ptr 2 0)], [(0, true, .cells 72 [.lit false, .any (.slice none 0 0), .any (.slice none 0 0)]), (1, false, .aK (bV w.heap.size (some ⟨p.1, 0, none⟩) (bP l))), (2, true, .cells 72 [.bool false, .any (.slice t.1.1 (ae.nd 10 N) t.1.2.1), .any (.slice t.1.2.2.1 (ae.nd 10 1) t.1.2.2.2)]), (3, false, .aK (bV w.heap.size t.1.1 (nv .i64 10 N))), (4, false, .aK (bV w.heap.size t.1.2.2.1 (nv .i64 10 1)))], 5, 151⟩) [] [200004] [] [300009] (fun I2 hI2 => ?_) (fun t => ?_)
 ·repeat' (first | exact ⟨⟩ | refine yG ?_ ?_ | refine yA (.int .i64 (va : Nat)) (fun _ => M0) ?_ | refine yA (.int .i64 (vb : Nat)) (fun _ => M1) ?_ | (refine dF .i64 10 ⟨false, N, 1⟩ hw0 (by kernel_rfl) rfl (fun β w' hm => hW w' hm.below) (fun a5 c5 a6 c6 hc5 => ?_)) | ((with_reducible show ∃ _ : SV, _); first | refine yN (j := 0) underlying121 sizeOf9 ?_ | refine yN (j := 1) underlying121 sizeOf9 ?_ | refine yO (v := .str a) (aP 1 (.str a) (fun w => isAgg9 w) rfl (fun β => hx0)) ?_ | refine yO (v := .str b) (aP 1 (.str b) (fun w => isAgg9 w) rfl (fun β => hx1)) ?_ | (refine ⟨.int .i64 (va : Nat), by kernel_rfl, trivial, fun β w hm => M0 w, ?_⟩) | (refine ⟨.int .i64 (vb : Nat), by kernel_rfl, trivial, fun β w hm => M1 w, ?_⟩)) | intro _)
  all_goals refine qY 5 2 rfl rfl rfl (Nat.zero_le _) ?_
  all_goals refine zk 3 (bV w.heap.size a5 (nv .i64 10 (N))) ?_
  all_goals refine zk 4 (bV w.heap.size a6 (nv .i64 10 (1))) ?_
  all_goals exact hI2 _ ⟨(a5, c5, a6, c6), hc5⟩ (by dsimp only; ((with_reducible show wk _ _); repeat' (first | exact trivial | exact au _ | refine eY ?_ | refine eqS ?_ | apply And.intro | exact yV | fail)); all_goals exact fun b x h => h)
 obtain ⟨⟨ta, tc, tb, te⟩, hct⟩ := t
 dsimp only at hct ⊢
 repeat' (first | exact ⟨⟩ | refine yG ?_ ?_ | (refine bT (T := Nat × Nat) (fun t => .any (.slice (some ⟨t.1, 0, none⟩) l2.length t.2)) (fun t => [(some ⟨t.1, 0, none⟩, bP l2)]) hw0 (by kernel_rfl) rfl (fun _ => rfl) (fun β w' hm => hS2 w') (fun p2 _ => ?_)) | refine yA (.lit true) (fun _ => A2) ?_ | refine yA (.int .i64 (vx : Nat)) (fun _ => M2) ?_ | refine yA (.lit true) (fun _ => A3) ?_ | refine yO (aJ underlying121) ?_ | refine yN (j := 0) underlying121 sizeOf9 ?_ | refine yN (j := 1) underlying121 sizeOf9 ?_ | refine yN (j := 2) underlying121 sizeOf9 ?_ | refine yO (v := .str c) (aP 1 (.str c) (fun w => isAgg9 w) rfl (fun β => hx2)) ?_ | refine yO (v := .str x) (aP 5 (.str x) (fun w => isAgg9 w) rfl (fun β => hy0)) ?_ | refine yO (v := .str q) (aP 5 (.str q) (fun w => isAgg9 w) rfl (fun β => hy1)) ?_ | intro _)
 all_goals first | (exfalso; omega) | skip
 refine iM 2 hw0 ?_
 refine yJ (T := {t : Option Addr × Nat × Option Addr × Nat // iw 10 ⟨false, N1, 1, t.1, t.2.1, t.2.2.1, t.2.2.2⟩}) (fun t => ⟨[(2, .ptr 0 0), (5, .ptr 2 0), (6, .any (.slice (some ⟨p2.1, 0, none⟩) l2.length p2.2))], [(0, true, .cells 72 [.lit false, .any (.slice none 0 0), .any (.slice none 0 0)]), (2, true, .cells 72 [.bool false, .any (.slice t.1.1 (ae.nd 10 N1) t.1.2.1), .any (.slice t.1.2.2.1 (ae.nd 10 1) t.1.2.2.2)]), (5, false, .aK (bV w.heap.size (some ⟨p2.1, 0, none⟩) (bP l2))), (6, false, .aK (bV w.heap.size t.1.1 (nv .i64 10 N1))), (7, false, .aK (bV w.heap.size t.1.2.2.1 (nv .i64 10 1)))], 8, 151⟩) [] [200009] [] [300011] (fun I4 ZR => ?_) (fun t => ?_)
 ·repeat' (first | exact ⟨⟩ | refine yG ?_ ?_ | refine yA (.int .i64 (vx : Nat)) (fun _ => M2) ?_ | (refine dF .i64 10 ⟨false, vx, 1⟩ hw0 (by kernel_rfl) rfl (fun β w' hm => YE w' hm.below) (fun xa xc xb xe hcx => ?_)) | (refine dF .i64 10 ⟨false, N1, 1⟩ hw0 (by kernel_rfl) rfl (fun β w' hm => hAd ⟨false, N, 1, ta, tc, tb, te⟩ ⟨false, vx, 1, xa, xc, xb, xe⟩ w' hm.below (aX.of (df hm) (df hm) hct) (aX.of (df hm) (df hm) hcx) rfl rfl) (fun sa sc sb se hcs => ?_)) | ((with_reducible show ∃ _ : SV, _); first | refine yN (j := 0) underlying121 sizeOf9 ?_ | refine yO (v := .str x) (aP 5 (.str x) (fun w => isAgg9 w) rfl (fun β => hy0)) ?_ | (refine ⟨.int .i64 (vx : Nat), by kernel_rfl, trivial, fun β w hm => M2 w, ?_⟩)) | intro _)
  all_goals refine zk 6 (bV w.heap.size sa (nv .i64 10 (N1))) ?_
  all_goals refine zk 7 (bV w.heap.size sb (nv .i64 10 (1))) ?_
  all_goals exact ZR _ ⟨(sa, sc, sb, se), hcs⟩ (by dsimp only; ((with_reducible show wk _ _); repeat' (first | exact trivial | exact au _ | refine eY ?_ | refine eqS ?_ | apply And.intro | exact yV | fail)); all_goals exact fun b x h => h)
 obtain ⟨⟨sa, sc, sb, se⟩, hcs⟩ := t
 dsimp only at hcs ⊢
 repeat' (first | exact ⟨⟩ | refine yG ?_ ?_ | refine yO (aJ underlying121) ?_ | intro _)
 all_goals first | (exfalso; omega) | skip
 all_goals
  refine iM 4 hw0 ?_
  refine yJ (T := {t : Option Addr × Nat × Option Addr × Nat // iw 10 ⟨false, N2, T, t.1, t.2.1, t.2.2.1, t.2.2.2⟩}) (fun t => ⟨[(2, .ptr 0 0), (5, .ptr 2 0)], [(0, true, .cells 72 [.lit false, .any (.slice none 0 0), .any (.slice none 0 0)]), (2, true, .cells 72 [.bool false, .any (.slice t.1.1 (ae.nd 10 N2) t.1.2.1), .any (.slice t.1.2.2.1 (ae.nd 10 T) t.1.2.2.2)]), (10, false, .aK (bV w.heap.size t.1.1 (nv .i64 10 N2))), (11, false, .aK (bV w.heap.size t.1.2.2.1 (nv .i64 10 T)))], 12, 151⟩) [] [200011] [] [200012] (fun I3 Wy => ?_) (fun t => ?_)
  ·repeat' (first | exact ⟨⟩ | refine yG ?_ ?_ | (refine aH .i64 10 vq hw0 (by kernel_rfl) rfl (fun β w' hm => hNq w') (fun a1 c1 q1 q2 q3 => ?_)) | (refine Fb .i64 10 T (fun a' c' => .agg [.bool false, .any (.slice a1 (ae.nd 10 vq) c1), .any (.slice a' (ae.nd 10 T) c')]) hw0 (by kernel_rfl) rfl (fun a' c' => ⟨trivial, rfl, rfl, trivial⟩) (fun β w' hm => ZW a1 c1 g1 w' (zl hw0 hm.aU) (by first | exact (hm.own 12 rfl).1 | exact (hm.own 13 rfl).1 | exact (hm.own 14 rfl).1)) (fun a2 c2 q4 q5 => ?_)) | (refine dF .i64 10 ⟨false, N2, T⟩ hw0 (by kernel_rfl) rfl (fun β w' hm => hAq ⟨false, N1, 1, sa, sc, sb, se⟩ ⟨false, vq, T, a1, c1, a2, c2⟩ w' hm.below (aX.of (df hm) (df hm) hcs) (aX.of (df hm) (df hm) ⟨q1, q4, q2, q5⟩) rfl rfl) (fun a5 c5 a6 c6 hc5 => ?_)) | (refine aI (sz := 1) rfl rfl rfl (xs := [.int .i64 1]) (fun β => rfl) rfl (by omega) (by omega) hu hsz hzv (fun g1 => ?_)) | refine yN (j := 1) underlying121 sizeOf9 ?_ | refine yO (v := .str q) (aP 5 (.str q) (fun w => isAgg9 w) rfl (fun β => hy1)) ?_ | intro _)
   all_goals refine zk 10 (bV w.heap.size a5 (nv .i64 10 (N2))) ?_
   all_goals refine zk 11 (bV w.heap.size a6 (nv .i64 10 (T))) ?_
   all_goals exact Wy _ ⟨(a5, c5, a6, c6), hc5⟩ (by dsimp only; ((with_reducible show wk _ _); repeat' (first | exact trivial | exact au _ | refine eY ?_ | refine eqS ?_ | apply And.intro | exact yV | fail)); all_goals exact fun b x h => h)
  obtain ⟨⟨za, zc, zb, ze⟩, hcz⟩ := t
  dsimp only at hcz ⊢
  repeat' (first | exact ⟨⟩ | refine yG ?_ ?_ | (refine dF .i64 10 ⟨false, 86400, 1⟩ hw0 (by kernel_rfl) rfl (fun β w' hm => hG w' hm.below) (fun a7 c7 a8 c8 Nw => ?_)) | refine yK (.agg [.bool false, .any (.slice a8 (ae.nd 10 1) c8), .any (.slice a7 (ae.nd 10 86400) c7)]) (fun β w hm => CG false a7 a8 _ _ _ _ w) ?_ | (refine dF .i64 10 ⟨false, N2, Q⟩ hw0 (by kernel_rfl) rfl (fun β w' hm => hU ⟨false, N2, T, za, zc, zb, ze⟩ ⟨false, 1, 86400, a8, c8, a7, c7⟩ w' hm.below (aX.of (df hm) (df hm) hcz) (aX.of (df hm) (df hm) ⟨Nw.2, Nw.1, Nw.4, Nw.3⟩) rfl rfl) (fun ra rc rb re hcr => ?_)) | intro _)
  all_goals first | (exfalso; omega) | (refine ret fun β w' hm => ?_; exact ⟨⟨false, N2, Q, ra, rc, rb, re⟩, rfl, rfl, hcr, oK (df hm) (nS hm) (df hm) (nS hm), hm.below⟩)
end
theorem ae.yP (k : Nat) : ae.dR ((k : Nat) : Int) = ⟨false, k, 1⟩ := by
 unfold ae.dR
 rw [decide_eq_false (by omega)]
 congr 1
theorem af.qW {g : List UInt8} (h : af.fJ g = true) : g ≠ [] /\ g.all ae.aY = true := by
 unfold af.fJ at h
 simp only [Bool.and_eq_true, Bool.not_eq_true', List.isEmpty_eq_false_iff] at h
 exact h
theorem af.Wu {g : List UInt8} (h : g ≠ []) (h2 : g.all ae.aY = true) : af.fJ g = true := by
 unfold af.fJ
 simp only [Bool.and_eq_true, Bool.not_eq_true', List.isEmpty_eq_false_iff]
 exact ⟨h, h2⟩
theorem af.WA (a b : List UInt8) : af.Qg a b = true ↔ (af.fJ a = true /\ a.length <= 2 /\ af.fJ b = true /\ b.length = 2 /\ ae.ax a <= 23 /\ ae.ax b <= 59) := by
 unfold af.Qg
 have hc := af.EY b 2 (by omega)
 simp only [Bool.and_eq_true, decide_eq_true_eq, hc]
 unfold af.fJ
 simp only [Bool.and_eq_true]
 constructor
 ·rintro ⟨⟨⟨⟨⟨h1, h2⟩, h3⟩, h4, h5⟩, h6⟩, h7⟩
  exact ⟨⟨h1, h2⟩, h3, h5, h4, h6, h7⟩
 ·rintro ⟨⟨h1, h2⟩, h3, h5, h4, h6, h7⟩
  exact ⟨⟨⟨⟨⟨h1, h2⟩, h3⟩, h4, h5⟩, h6⟩, h7⟩
theorem ae.GV {n : Nat} (h : n < 10000000000000000000000000) : ae.nd 10 n <= 1000000 := Nat.le_trans (ae.dX (n := 25) (by omega) (by simpa using h)) (by omega)
theorem FY {A B C D : Nat} {P Q : Nat} (hP : A * C = P) (hQ : B * D = Q) (hA : A < 10000000000000000000000000) (hB : B < 10000000000000000000000000) (hC : C < 10000000000000000000000000) (hD : D < 10000000000000000000000000) (x y : bI) (w : World) (hw0 : 0 < w.heap.size) (hx : aX .i64 10 x w) (hy : aX .i64 10 y w) (ex : x.num = ⟨false, A, B⟩) (ey : y.num = ⟨false, C, D⟩) : Calls Tryz.prog 133 #[x.val 10, y.val 10] w (fF .i64 10 ⟨false, P, Q⟩ w) := by
 have := Td x y w hw0 hx hy (by show ae.nd 10 x.num.n <= _; rw [ex]; exact ae.GV hA) (by show ae.nd 10 x.num.d <= _; rw [ex]; exact ae.GV hB) (by show ae.nd 10 y.num.n <= _; rw [ey]; exact ae.GV hC) (by show ae.nd 10 y.num.d <= _; rw [ey]; exact ae.GV hD)
 rw [ex, ey] at this
 have e : ae.mulN ⟨false, A, B⟩ ⟨false, C, D⟩ = ⟨false, P, Q⟩ := by unfold ae.mulN; dsimp only; rw [hP, hQ]; rfl
 rw [e] at this
 exact this
theorem EZ {A B C D : Nat} {P Q : Nat} (hP : A * D + C * B = P) (hQ : B * D = Q) (hA : A < 10000000000000000000000000) (hB : B < 10000000000000000000000000) (hC : C < 10000000000000000000000000) (hD : D < 10000000000000000000000000) (x y : bI) (w : World) (hw0 : 0 < w.heap.size) (hx : aX .i64 10 x w) (hy : aX .i64 10 y w) (ex : x.num = ⟨false, A, B⟩) (ey : y.num = ⟨false, C, D⟩) : Calls Tryz.prog 131 #[x.val 10, y.val 10] w (fF .i64 10 ⟨false, P, Q⟩ w) := by
 have := wO x y w hw0 hx hy (by show ae.nd 10 x.num.n <= _; rw [ex]; exact ae.GV hA) (by show ae.nd 10 x.num.d <= _; rw [ex]; exact ae.GV hB) (by show ae.nd 10 y.num.n <= _; rw [ey]; exact ae.GV hC) (by show ae.nd 10 y.num.d <= _; rw [ey]; exact ae.GV hD)
 rw [ex, ey] at this
 have e : ae.fP ⟨false, A, B⟩ ⟨false, C, D⟩ = ⟨false, P, Q⟩ := by unfold ae.fP; rw [if_pos rfl]; dsimp only; rw [hP, hQ]
 rw [e] at this
 exact this
theorem Ci (s : List UInt8) (w : World) (hw0 : 0 < w.heap.size) (hl : s.length <= 40000) : mP 66 s (af.jQ s) w := by
 rw [af.UE]
 have hS := fun (w' : World) => kJ 58 s w' (by omega)
 have hlen := jJ 58 s
 have G := fun (w' : World) (h : BW w w') => mO 86400 w' (zl hw0 h.size) (by omega) (by omega)
 rw [show ae.dR 86400 = ⟨false, 86400, 1⟩ from ae.yP 86400] at G
 have Zn := fun (g : List UInt8) (h : g.length <= 100000) (w' : World) => ig g w' (by omega)
 have hSM : ∀ g : List UInt8, af.fJ g = true -> g.length <= 9 -> ∀ w' : World, QC 132 #[.string (ah g)] w' (.int .i64 (ae.ax g : Nat)) := fun g h1 h2 w' => CX g w' h2 (af.qW h1).2
 by_cases h23 : (af.aN 58 s).length < 2 \/ 3 < (af.aN 58 s).length
 ·have hv : af.AU s = none := by
   unfold af.AU
   split
   ·rename_i h; rw [h] at h23; simp at h23
   ·rename_i h; rw [h] at h23; simp at h23
   ·rfl
  rw [hv]
  exact ⟨⟨false, 0, 0⟩, (fun x h => by cases h), fun w' hb => PK s _ w' (zl hw0 hb.size) hS h23⟩
 ·have main : ∀ (a b : List UInt8) (xs : List (List UInt8)), af.aN 58 s = a :: b :: xs -> (xs = [] \/ ∃ c, xs = [c]) -> mP 66 s (af.AU s) w := by
   intro a b xs hsp hxs
   rw [hsp] at hS hlen
   have la := hlen a (by simp)
   have lb := hlen b (by simp)
   have hn : (a :: b :: xs).length = 2 \/ (a :: b :: xs).length = 3 := by
    rcases hxs with rfl | ⟨c, rfl⟩
    ·exact .inl rfl
    ·exact .inr rfl
   have hx0 : (bP (a :: b :: xs))[0]? = some (.string (ah a)) := rfl
   have hx1 : (bP (a :: b :: xs))[1]? = some (.string (ah b)) := rfl
   have A0 := Zn a (by omega)
   have A1 := Zn b (by omega)
   have M0 := fun h (h2 : a.length <= 2) => hSM a h (by omega)
   have M1 := fun h (h2 : b.length = 2) => hSM b h (by omega)
   by_cases hm : af.Qg a b = true
   ·obtain ⟨d0, l0, d1, l1, b0, b1⟩ := (af.WA a b).1 hm
    have e3 : (3600 * ((ae.ax a : Nat) : Int) + 60 * ((ae.ax b : Nat) : Int)) = ((af.hmN a b : Nat) : Int) := by unfold af.hmN; omega
    have hN : af.hmN a b <= 86340 := by unfold af.hmN; omega
    have W := fun (w' : World) (h : BW w w') => mO ((af.hmN a b : Nat) : Int) w' (zl hw0 h.size) (by omega) (by omega)
    rw [ae.yP, <- e3] at W
    rcases hxs with rfl | ⟨c, rfl⟩
    ·have hv : af.AU s = some ⟨false, af.hmN a b, 86400⟩ := by
      unfold af.AU
      rw [hsp]
      exact if_pos hm
     rw [hv]
     refine ⟨⟨false, af.hmN a b, 86400⟩, (fun x h => by cases h; rfl), fun w' hb => ?_⟩
     exact PQ s _ w' (zl hw0 hb.size) hS a b hn hx0 hx1 A0 A1 M0 M1 _ _ (af.hmN a b) d0 d1 l0 l1 rfl rfl b0 b1 (fun w2 h2 => W w2 (bZ hb h2)) (fun w2 h2 => G w2 (bZ hb h2)) rfl (fun x y w2 h2 hx hy ex ey => FY (by omega) (by omega) (by omega) (by omega) (by omega) (by omega) x y w2 (zl hw0 (bZ hb h2).size) hx hy ex ey)
    ·have lc := hlen c (by simp)
     have hx2 : (bP (a :: b :: [c]))[2]? = some (.string (ah c)) := rfl
     have hS2 := fun (w' : World) => kJ 46 c w' (by omega)
     have hlen2 := jJ 46 c
     have hne := af.pV 46 c
     have hv : af.AU s = match af.aN 46 c with
       | [x] => af.zT a b x [] false
       | [x, p] => af.zT a b x p true
       | _ => none := by
      unfold af.AU
      rw [hsp]
      rfl
     have sec : ∀ (x q : List UInt8) (tl : List (List UInt8)), af.aN 46 c = x :: tl -> (2 <= (x :: tl).length -> (bP (x :: tl))[1]? = some (.string (ah q))) -> q.length <= 100000 -> ∀ V : Option ae.Num, (V = if tl.length <= 1 /\ af.JA x (if tl.length = 1 then q else []) (decide (tl.length = 1)) = true then some ⟨false, af.hmN a b * 10 ^ (if tl.length = 1 then q else []).length + ae.ax (x ++ (if tl.length = 1 then q else [])), 10 ^ (if tl.length = 1 then q else []).length * 86400⟩ else none) -> mP 66 s V w := by
      intro x q tl hsp2 hy1 U6 V hV
      rw [hsp2] at hS2 hlen2
      have lx := hlen2 x (by simp)
      have A2 := Zn x (by omega)
      have A3 := Zn q U6
      have M2 := fun h (h2 : x.length = 2) => hSM x h (by omega)
      have hy0 : (bP (x :: tl))[0]? = some (.string (ah x)) := rfl
      have hll : (x :: tl).length = tl.length + 1 := rfl
      have WC : (tl.length <= 1 /\ af.JA x (if tl.length = 1 then q else []) (decide (tl.length = 1)) = true) ↔ ((x :: tl).length <= 2 /\ x.length = 2 /\ af.fJ x = true /\ ae.ax x <= 59 /\ ((x :: tl).length = 2 -> af.fJ q = true /\ q.length <= 9)) := by
       rw [af.uj, hll]
       constructor
       ·rintro ⟨h1, ⟨h2, h3⟩, h4, h5⟩
        refine ⟨by omega, h3, af.Wu (fun e => by rw [e] at h3; cases h3) h2, h4, fun h => ?_⟩
        have e1 : tl.length = 1 := by omega
        have := h5 (decide_eq_true e1)
        rw [if_pos e1] at this
        exact ⟨af.Wu this.1 this.2.1, this.2.2⟩
       ·rintro ⟨h1, h2, h3, h4, h5⟩
        refine ⟨by omega, ⟨(af.qW h3).2, h2⟩, h4, fun h => ?_⟩
        have e1 := of_decide_eq_true h
        obtain ⟨k1, k2⟩ := h5 (by omega)
        rw [if_pos e1]
        exact ⟨(af.qW k1).1, (af.qW k1).2, k2⟩
      by_cases hs : (x :: tl).length <= 2 /\ x.length = 2 /\ af.fJ x = true /\ ae.ax x <= 59 /\ ((x :: tl).length = 2 -> af.fJ q = true /\ q.length <= 9)
      ·rw [if_pos (WC.2 hs)] at hV
       obtain ⟨s1, s2, s3, s4, s5⟩ := hs
       have Wx := fun (w' : World) (h : BW w w') => mO ((ae.ax x : Nat) : Int) w' (zl hw0 h.size) (by omega) (by omega)
       rw [ae.yP] at Wx
       by_cases e1 : tl.length = 1
       ·obtain ⟨d3, lq⟩ := s5 (by omega)
        obtain ⟨q0, qa⟩ := af.qW d3
        have KW : 0 < q.length := List.length_pos_iff.2 q0
        simp only [if_pos e1] at hV
        have hvq : ae.ax q < 1000000000 := by
         have h1 := ae.jW q qa
         have h2 : (10 : Nat) ^ q.length <= 10 ^ 9 := Nat.pow_le_pow_right (by omega) lq
         omega
        have hT : 10 ^ q.length <= 1000000000 := by
         have h2 : (10 : Nat) ^ q.length <= 10 ^ 9 := Nat.pow_le_pow_right (by omega) lq
         omega
        have hT0 : 0 < 10 ^ q.length := Nat.pow_pos (by omega)
        have hNq := fun (w' : World) => jf q w' (by omega) qa
        have ZW : ∀ (a : Option Addr) (c g : Nat) (w' : World), 0 < w'.heap.size -> aS (some ⟨g, 0, none⟩) [.int .i64 1] w' -> Calls Tryz.prog 129 #[.agg #[.bool false, .slice a (ae.nd 10 (ae.ax q)) c, .slice (some ⟨g, 0, none⟩) 1 1], .int .i64 (0 - (q.length : Int))] w' (NumOut .i64 10 (10 ^ q.length) (fun a' c' => .agg #[.bool false, .slice a (ae.nd 10 (ae.ax q)) c, .slice a' (ae.nd 10 (10 ^ q.length)) c']) w') := fun a c g w' FO hsl => by
         have hn1 : ae.nd 10 1 = 1 := ae.gq (by omega)
         have hv1 : nv .i64 10 1 = [.int .i64 1] := oO (by omega)
         have SC := sK false (ae.ax q) 1 a c (some ⟨g, 0, none⟩) 1 q.length w' FO KW (by omega) (by rw [hn1]; omega) (by rw [hv1]; exact hsl)
         rw [show (0 : Int) - (q.length : Int) = -((q.length : Nat) : Int) by omega]
         simp only [hn1, Nat.one_mul] at SC
         exact SC
        have hva : ae.ax (x ++ q) = ae.ax x * 10 ^ q.length + ae.ax q := ae.val_append x q
        rw [hva] at hV
        rw [hV]
        have hmul : (af.hmN a b + ae.ax x) * 10 ^ q.length <= 86399 * 1000000000 := Nat.mul_le_mul (by omega) hT
        have YT : (af.hmN a b + ae.ax x) * 10 ^ q.length + ae.ax q = af.hmN a b * 10 ^ q.length + (ae.ax x * 10 ^ q.length + ae.ax q) := by rw [Nat.add_mul, Nat.add_assoc]
        refine ⟨⟨false, af.hmN a b * 10 ^ q.length + (ae.ax x * 10 ^ q.length + ae.ax q), 10 ^ q.length * 86400⟩, (fun x h => by cases h; rfl), fun w' hb => ?_⟩
        have := Tn s _ w' (zl hw0 hb.size) hS a b hn hx0 hx1 A0 A1 M0 M1 _ _ (af.hmN a b) d0 d1 l0 l1 rfl rfl b0 b1 (fun w2 h2 => W w2 (bZ hb h2)) (fun w2 h2 => G w2 (bZ hb h2)) c x _ rfl hx2 hS2 (by rw [hll]; omega) hy0 A2 M2 q (fun h => hy1 (by omega)) A3 (ae.ax x) (af.hmN a b + ae.ax x) s3 s2 rfl s4 (fun w2 h2 => Wx w2 (bZ hb h2)) (fun x y w2 h2 hx hy ex ey => EZ (by omega) (by omega) (by omega) (by omega) (by omega) (by omega) x y w2 (zl hw0 (bZ hb h2).size) hx hy ex ey) (by rw [hll]; omega) d3 lq (ae.ax q) ((af.hmN a b + ae.ax x) * 10 ^ q.length + ae.ax q) (10 ^ q.length) (10 ^ q.length * 86400) hNq ZW (fun x y w2 h2 hx hy ex ey => EZ (by rw [Nat.mul_one]) (by rw [Nat.one_mul]) (by omega) (by omega) (by omega) (by omega) x y w2 (zl hw0 (bZ hb h2).size) hx hy ex ey) (fun x y w2 h2 hx hy ex ey => FY (by rw [Nat.mul_one]) rfl (by omega) (by omega) (by omega) (by omega) x y w2 (zl hw0 (bZ hb h2).size) hx hy ex ey)
        rw [YT] at this
        exact this
       ·simp only [if_neg e1, List.length_nil, Nat.pow_zero, Nat.mul_one, Nat.one_mul, List.append_nil] at hV
        rw [hV]
        refine ⟨⟨false, af.hmN a b + ae.ax x, 86400⟩, (fun x h => by cases h; rfl), fun w' hb => ?_⟩
        exact PN s _ w' (zl hw0 hb.size) hS a b hn hx0 hx1 A0 A1 M0 M1 _ _ (af.hmN a b) d0 d1 l0 l1 rfl rfl b0 b1 (fun w2 h2 => W w2 (bZ hb h2)) (fun w2 h2 => G w2 (bZ hb h2)) c x _ rfl hx2 hS2 (by rw [hll]; omega) hy0 A2 M2 q (fun h => hy1 (by omega)) A3 (ae.ax x) (af.hmN a b + ae.ax x) s3 s2 rfl s4 (fun w2 h2 => Wx w2 (bZ hb h2)) (fun x y w2 h2 hx hy ex ey => EZ (by omega) (by omega) (by omega) (by omega) (by omega) (by omega) x y w2 (zl hw0 (bZ hb h2).size) hx hy ex ey) (by rw [hll]; omega) (fun x y w2 h2 hx hy ex ey => FY (by omega) (by omega) (by omega) (by omega) (by omega) (by omega) x y w2 (zl hw0 (bZ hb h2).size) hx hy ex ey)
      ·rw [if_neg (fun h => hs (WC.1 h))] at hV
       rw [hV]
       refine ⟨⟨false, 0, 0⟩, (fun x h => by cases h), fun w' hb => ?_⟩
       exact PO s _ w' (zl hw0 hb.size) hS a b hn hx0 hx1 A0 A1 M0 M1 _ _ (af.hmN a b) d0 d1 l0 l1 rfl rfl b0 b1 (fun w2 h2 => W w2 (bZ hb h2)) (fun w2 h2 => G w2 (bZ hb h2)) c x _ rfl hx2 hS2 (by rw [hll]; omega) hy0 A2 M2 q (fun h => hy1 (by omega)) A3 hs
     rw [hv]
     match hsp2 : af.aN 46 c, hne with
     | [x], _ => exact sec x [] [] hsp2 (fun h => by simp at h) (by simp) _ (by unfold af.zT; simp [hm])
     | [x, p], _ => exact sec x p [p] hsp2 (fun _ => rfl) (by have := hlen2 p (by rw [hsp2]; simp); omega) _ (by unfold af.zT; simp [hm])
     | x :: p :: r :: tl, _ => exact sec x p (p :: r :: tl) hsp2 (fun _ => rfl) (by have := hlen2 p (by rw [hsp2]; simp); omega) _ (by simp)
     | [], h => exact absurd rfl h
   ·have hv : af.AU s = none := by
     unfold af.AU
     rw [hsp]
     rcases hxs with rfl | ⟨c, rfl⟩
     ·exact if_neg hm
     ·dsimp only
      split
      ·exact if_neg (fun h => hm h.1)
      ·exact if_neg (fun h => hm h.1)
      ·rfl
    rw [hv]
    exact ⟨⟨false, 0, 0⟩, (fun x h => by cases h), fun w' hb => Tm s _ w' (zl hw0 hb.size) hS a b hn hx0 hx1 A0 A1 M0 M1 (fun h => hm ((af.WA a b).2 h))⟩
  match hsp : af.aN 58 s, h23 with
  | [a, b], _ => exact main a b [] hsp (.inl rfl)
  | [a, b, c], _ => exact main a b [c] hsp (.inr ⟨c, rfl⟩)
  | [], h => simp at h
  | [a], h => simp at h
  | a :: b :: c :: d :: e, h => simp at h
end Go.Proofs.YtdkhkfdenlabaaaGreatDoor
