/- Values, the reference: mixed numbers. -/
import Derived.Test.YtdkhkfdenlabaaaGreatDoorVGG
import Derived.Test.YtdkhkfdenlabaaaGreatDoorVGY
import Derived.Test.YtdkhkfdenlabaaaGreatDoorVGT
import Derived.Test.YtdkhkfdenlabaaaGreatDoorVGW
import Derived.Test.YtdkhkfdenlabaaaGreatDoorVGM
import Derived.Test.YtdkhkfdenlabaaaGreatDoorVGN
import Derived.Test.YtdkhkfdenlabaaaGreatDoorVGU
import Derived.Lib.ItoaLen
set_option linter.unusedSimpArgs false
set_option linter.unusedVariables false
set_option maxRecDepth 100000
set_option maxHeartbeats 64000000
namespace Go.Proofs.YtdkhkfdenlabaaaGreatDoor
open Go.Proofs.Tryz
section
open Go.RowKit
open Sym
attribute [local irreducible] Calls Sym.bM ae.nd ae.bu ae.upd ae.ak ae.ay
theorem Po (s : List UInt8) (w : World) (hw0 : 0 < w.heap.size) (hl : s.length <= 40000) : mP 64 s (af.uy s) w := by
 rw [af.Vg]
 have hM := fun (w' : World) => jS s 45 w' (by omega)
 have hm : (s.head? == some 45) = (ae.aO s).2 /\ ((ae.aO s).2 = true -> List.drop 1 s = (ae.aO s).1 /\ 1 <= s.length) /\ ((ae.aO s).2 = false -> s = (ae.aO s).1) := by
  unfold ae.aO
  by_cases h : s.head? = some 45
  ·rw [if_pos h]
   refine ⟨by rw [h]; rfl, fun _ => ⟨by simp, ?_⟩, fun h => by cases h⟩
   cases s with
   | nil => cases h
   | cons c r => simp
  ·rw [if_neg h]
   exact ⟨by simpa using h, fun h => (by cases h), fun _ => rfl⟩
 obtain ⟨hm1, hm2, hm3⟩ := hm
 rw [hm1] at hM
 have htl := ae.iP s
 unfold af.Xt
 generalize (ae.aO s).2 = m at *
 generalize (ae.aO s).1 = t at *
 have hs1 : m = true -> 1 <= s.length := fun h => (hm2 h).2
 have ht1 : m = true -> List.drop 1 s = t := fun h => (hm2 h).1
 clear hm2 hm1
 have hS := fun (w' : World) => kJ 32 t w' (by omega)
 have hlen := jJ 32 t
 by_cases h2 : (af.aN 32 t).length = 2
 ·match hsp : af.aN 32 t, h2 with
  | [wd, rr], _ =>
    rw [hsp] at hS hlen
    have lw := hlen wd (by simp)
    have lr := hlen rr (by simp)
    have hS2 := fun (w' : World) => kJ 47 rr w' (by omega)
    have hlen2 := jJ 47 rr
    dsimp only
    by_cases h3 : (af.aN 47 rr).length = 2
    ·match hsp2 : af.aN 47 rr, h3 with
     | [a, b], _ =>
       rw [hsp2] at hS2 hlen2
       have la := hlen2 a (by simp)
       have lb := hlen2 b (by simp)
       dsimp only
       have hA : ∀ g ∈ [wd, a, b], ∀ w' : World, QC 127 #[.string (ah g)] w' (.bool (af.fJ g)) := fun g hg w' => ig g w' (by
        simp only [List.mem_cons, List.not_mem_nil, or_false] at hg
        rcases hg with rfl | rfl | rfl <;> omega)
       have nat : ∀ g, af.wh g = true -> ∀ w' : World, Calls Tryz.prog 130 #[.string (ah g)] w' (iT .i64 10 (ae.ax g) w') := fun g hg w' => by
        obtain ⟨-, g1, g2⟩ := af.xh hg
        exact jf g w' (by omega) g1
       have nd1 : ae.nd 10 1 <= 1000000 := by rw [ae.gq (by omega)]; omega
       have ndg : ∀ g, af.wh g = true -> ae.nd 10 (ae.ax g) <= 1000000 := fun g hg => by
        obtain ⟨-, g1, g2⟩ := af.xh hg
        have := ae.F5 g1 g2
        omega
       obtain ⟨V, hV⟩ : ∃ V, af.Dw m wd a b = V := ⟨_, rfl⟩
       rw [hV]
       unfold af.Dw at hV
       refine ⟨if af.wh wd = true /\ af.wh a = true /\ af.wh b = true /\ ae.ax b ≠ 0 then ⟨m, ae.ax wd * ae.ax b + ae.ax a, ae.ax b⟩ else ⟨false, 0, 0⟩, fun x hx => ?_, fun w' hb => ?_⟩
       ·rw [hx] at hV
        split at hV
        ·rename_i h; rw [if_pos h]; cases hV; rfl
        ·cases hV
       ·refine Pz s t m _ w' (zl hw0 hb.size) hs1 hM ht1 hm3 hS wd rr rfl _ hS2 a b rfl hA _ _ (fun h => ?_) (nat b) (fun h hz => ?_) (nat a) (nat wd) (ae.ax wd * ae.ax b + ae.ax a) (ae.ax b) (fun h hz => ?_) (fun h hz x y w2 hb2 hx hy ex ey => ?_)
        ·have hn : ¬ (af.wh wd = true /\ af.wh a = true /\ af.wh b = true /\ ae.ax b ≠ 0) := fun h' => h ⟨h'.1, h'.2.1, h'.2.2.1⟩
         rw [if_neg hn] at hV ⊢
         rw [<- hV]; exact ⟨rfl, rfl⟩
        ·have hn : ¬ (af.wh wd = true /\ af.wh a = true /\ af.wh b = true /\ ae.ax b ≠ 0) := fun h' => h'.2.2.2 hz
         rw [if_neg hn] at hV ⊢
         rw [<- hV]; exact ⟨rfl, rfl⟩
        ·have hy : af.wh wd = true /\ af.wh a = true /\ af.wh b = true /\ ae.ax b ≠ 0 := ⟨h.1, h.2.1, h.2.2, hz⟩
         rw [if_pos hy] at hV ⊢
         rw [<- hV]; exact ⟨rfl, rfl⟩
        ·have := wO x y w2 (zl (zl hw0 hb.size) hb2.size) hx hy (by show ae.nd 10 x.num.n <= _; rw [ex]; exact ndg wd h.1) (by show ae.nd 10 x.num.d <= _; rw [ex]; exact nd1) (by show ae.nd 10 y.num.n <= _; rw [ey]; exact ndg a h.2.1) (by show ae.nd 10 y.num.d <= _; rw [ey]; exact ndg b h.2.2)
         rw [ex, ey] at this
         have e : ae.fP ⟨false, ae.ax wd, 1⟩ ⟨false, ae.ax a, ae.ax b⟩ = ⟨false, ae.ax wd * ae.ax b + ae.ax a, ae.ax b⟩ := by
          unfold ae.fP
          rw [if_pos rfl]
          simp
         rw [e] at this
         exact this
    ·split
     ·rename_i h; rw [h] at h3; exact absurd rfl h3
     ·exact ⟨⟨false, 0, 0⟩, (fun x h => by cases h), fun w' hb => Py s t m _ w' (zl hw0 hb.size) hs1 hM ht1 hm3 hS wd rr rfl _ hS2 h3⟩
 ·split
  ·rename_i h; rw [h] at h2; exact absurd rfl h2
  ·exact ⟨⟨false, 0, 0⟩, (fun x h => by cases h), fun w' hb => Tc s t m _ w' (zl hw0 hb.size) hs1 hM ht1 hm3 hS h2⟩
section
variable (s : List UInt8) (l : List (List UInt8)) (w : World) (hw0 : 0 < w.heap.size)
 (hS : ∀ w' : World, Calls Tryz.prog 126 #[.string (ah s), .int .u8 58] w' (fun e w'' => BW w' w'' /\ ∃ t : Nat × Nat, e = .returned (.slice (some ⟨t.1, 0, none⟩) (l).length t.2) /\ ∀ q ∈ [((some ⟨t.1, 0, none⟩ : Option Addr), bP l)], aS q.1 q.2 w'' /\ bz q.1 q.2 w'))
include hw0 hS
theorem PK (h : l.length < 2 \/ 3 < l.length) : Calls Tryz.prog 66 #[.string (ah s)] w (dU .i64 10 ⟨false, 0, 0⟩ false w) := by
 generalize hn : l.length = n at *
 generalize bP l = xs at *
 refine yE func66 rfl results66 ntmps66 [] [300004] [.str s] w ?_
 repeat' (first | exact ⟨⟩ | refine yG ?_ ?_ | (refine bT (T := Nat × Nat) (fun t => .any (.slice (some ⟨t.1, 0, none⟩) n t.2)) (fun t => [(some ⟨t.1, 0, none⟩, xs)]) hw0 (by kernel_rfl) rfl (fun _ => rfl) (fun β w' hm => hS w') (fun p _ => ?_)) | refine yO (aJ underlying121) ?_ | intro _)
 all_goals first | (exfalso; omega) | (refine ret fun β w' hm => ?_; exact ⟨⟨false, 0, 0, none, 0, none, 0⟩, by simp [bI.val, ae.aT, SV.den, SV.aF], rfl, dM, sW, hm.below⟩)
variable (a b : List UInt8) (hl : l.length = 2 \/ l.length = 3) (hx0 : (bP l)[0]? = some (.string (ah a))) (hx1 : (bP l)[1]? = some (.string (ah b)))
 (A0 : ∀ w' : World, QC 127 #[.string (ah a)] w' (.bool (af.fJ a)))
 (A1 : ∀ w' : World, QC 127 #[.string (ah b)] w' (.bool (af.fJ b)))
 (M0 : af.fJ a = true -> a.length <= 2 -> ∀ w' : World, QC 132 #[.string (ah a)] w' (.int .i64 (ae.ax a : Nat)))
 (M1 : af.fJ b = true -> b.length = 2 -> ∀ w' : World, QC 132 #[.string (ah b)] w' (.int .i64 (ae.ax b : Nat)))
include hl hx0 hx1 A0 A1 M0 M1
theorem Tm (h : ¬ (af.fJ a = true /\ a.length <= 2 /\ af.fJ b = true /\ b.length = 2 /\ ae.ax a <= 23 /\ ae.ax b <= 59)) : Calls Tryz.prog 66 #[.string (ah s)] w (dU .i64 10 ⟨false, 0, 0⟩ false w) := by
 generalize af.fJ a = D0 at *
 generalize af.fJ b = D1 at *
 generalize ae.ax a = va at *
 generalize ae.ax b = vb at *
 generalize bP l = xs at *
 generalize hn : l.length = n at *
 refine yE func66 rfl results66 ntmps66 [] [300004] [.str s] w ?_
 repeat' (first | exact ⟨⟩ | refine yG ?_ ?_ | (refine bT (T := Nat × Nat) (fun t => .any (.slice (some ⟨t.1, 0, none⟩) n t.2)) (fun t => [(some ⟨t.1, 0, none⟩, xs)]) hw0 (by kernel_rfl) rfl (fun _ => rfl) (fun β w' hm => hS w') (fun p _ => ?_)) | refine yA (.bool D0) (fun _ => A0) ?_ | refine yA (.bool D1) (fun _ => A1) ?_ | refine yK (.int .i64 (va : Nat)) (fun β w hm => M0 (by simpa using (by assumption : (!D0) = false)) (by omega) w) ?_ | refine yK (.int .i64 (vb : Nat)) (fun β w hm => M1 (by simpa using (by assumption : (!D1) = false)) (by omega) w) ?_ | refine yO (aJ underlying121) ?_ | refine yN (j := 0) underlying121 sizeOf9 ?_ | refine yN (j := 1) underlying121 sizeOf9 ?_ | refine yO (v := .str a) (aP 1 (.str a) (fun w => isAgg9 w) rfl (fun β => hx0)) ?_ | refine yO (v := .str b) (aP 1 (.str b) (fun w => isAgg9 w) rfl (fun β => hx1)) ?_ | intro _)
 all_goals first | (exfalso; omega) | (refine ret fun β w' hm => ?_; exact ⟨⟨false, 0, 0, none, 0, none, 0⟩, by simp [bI.val, ae.aT, SV.den, SV.aF], rfl, dM, sW, hm.below⟩) | (exfalso; clear hS A0 A1 M0 M1; apply h; refine ⟨?_, ?_, ?_, ?_, ?_, ?_⟩ <;> first | omega | (simp_all; done))
variable (va vb N : Nat) (d0 : af.fJ a = true) (d1 : af.fJ b = true) (la : a.length <= 2) (lb : b.length = 2) (hva : ae.ax a = va) (hvb : ae.ax b = vb) (b0 : va <= 23) (b1 : vb <= 59)
 (hW : ∀ w' : World, BW w w' -> Calls Tryz.prog 78 #[.int .i64 (3600 * (va : Int) + 60 * (vb : Int))] w' (fF .i64 10 ⟨false, N, 1⟩ w'))
 (hG : ∀ w' : World, BW w w' -> Calls Tryz.prog 78 #[.int .i64 86400] w' (fF .i64 10 ⟨false, 86400, 1⟩ w'))
include d0 d1 la lb hva hvb b0 b1 hW hG
theorem PQ (h2 : l.length = 2) (hU : ∀ (x y : bI) (w' : World), BW w w' -> aX .i64 10 x w' -> aX .i64 10 y w' -> x.num = ⟨false, N, 1⟩ -> y.num = ⟨false, 1, 86400⟩ -> Calls Tryz.prog 133 #[x.val 10, y.val 10] w' (fF .i64 10 ⟨false, N, 86400⟩ w')) : Calls Tryz.prog 66 #[.string (ah s)] w (dU .i64 10 ⟨false, N, 86400⟩ true w) := by
 have _u := hl
 rw [d0] at A0
 rw [d1] at A1
 replace M0 := M0 d0 la
 replace M1 := M1 d1 lb
 rw [hva] at M0
 rw [hvb] at M1
 generalize hn : l.length = n at *
 refine yE func66 rfl results66 ntmps66 [] [300004] [.str s] w ?_
 repeat' (first | exact ⟨⟩ | refine yG ?_ ?_ | (refine bT (T := Nat × Nat) (fun t => .any (.slice (some ⟨t.1, 0, none⟩) n t.2)) (fun t => [(some ⟨t.1, 0, none⟩, bP l)]) hw0 (by kernel_rfl) rfl (fun _ => rfl) (fun β w' hm => hS w') (fun p _ => ?_)) | refine yA (.lit true) (fun _ => A0) ?_ | refine yA (.lit true) (fun _ => A1) ?_ | refine yA (.int .i64 (va : Nat)) (fun _ => M0) ?_ | refine yA (.int .i64 (vb : Nat)) (fun _ => M1) ?_ | refine yO (aJ underlying121) ?_ | refine yN (j := 0) underlying121 sizeOf9 ?_ | refine yN (j := 1) underlying121 sizeOf9 ?_ | refine yO (v := .str a) (aP 1 (.str a) (fun w => isAgg9 w) rfl (fun β => hx0)) ?_ | refine yO (v := .str b) (aP 1 (.str b) (fun w => isAgg9 w) rfl (fun β => hx1)) ?_ | intro _)
 all_goals first | (exfalso; omega) | skip
 refine iM 3 hw0 ?_
 refine yJ (T := {t : Option Addr × Nat × Option Addr × Nat // iw 10 ⟨false, N, 1, t.1, t.2.1, t.2.2.1, t.2.2.2⟩}) (fun t => ⟨[(2, .ptr 0 0), (4, .any (.slice (some ⟨p.1, 0, none⟩) n p.2)), (5, .ptr 2 0)], [(0, true, .cells 72 [.lit false, .any (.slice none 0 0), .any (.slice none 0 0)]), (1, false, .aK (bV w.heap.size (some ⟨p.1, 0, none⟩) (bP l))), (2, true, .cells 72 [.bool false, .any (.slice t.1.1 (ae.nd 10 N) t.1.2.1), .any (.slice t.1.2.2.1 (ae.nd 10 1) t.1.2.2.2)]), (3, false, .aK (bV w.heap.size t.1.1 (nv .i64 10 N))), (4, false, .aK (bV w.heap.size t.1.2.2.1 (nv .i64 10 1)))], 5, 151⟩) [] [200004] [] [200012] (fun I2 hI2 => ?_) (fun t => ?_)
 ·repeat' (first | exact ⟨⟩ | refine yG ?_ ?_ | refine yA (.int .i64 (va : Nat)) (fun _ => M0) ?_ | refine yA (.int .i64 (vb : Nat)) (fun _ => M1) ?_ | (refine dF .i64 10 ⟨false, N, 1⟩ hw0 (by kernel_rfl) rfl (fun β w' hm => hW w' hm.below) (fun a5 c5 a6 c6 hc5 => ?_)) | ((with_reducible show ∃ _ : SV, _); first | refine yN (j := 0) underlying121 sizeOf9 ?_ | refine yN (j := 1) underlying121 sizeOf9 ?_ | refine yO (v := .str a) (aP 1 (.str a) (fun w => isAgg9 w) rfl (fun β => hx0)) ?_ | refine yO (v := .str b) (aP 1 (.str b) (fun w => isAgg9 w) rfl (fun β => hx1)) ?_ | (refine ⟨.int .i64 (va : Nat), by kernel_rfl, trivial, fun β w hm => M0 w, ?_⟩) | (refine ⟨.int .i64 (vb : Nat), by kernel_rfl, trivial, fun β w hm => M1 w, ?_⟩)) | intro _)
  all_goals refine qY 5 2 rfl rfl rfl (Nat.zero_le _) ?_
  all_goals first | refine ai (Φ := bV w.heap.size a5 (nv .i64 10 (N))) 3 5 rfl rfl rfl (Nat.zero_le _) (by kernel_rfl) ?_ | refine ai (Φ := bV w.heap.size a5 (nv .i64 10 (N))) 3 6 rfl rfl rfl (Nat.zero_le _) (by kernel_rfl) ?_ | refine ai (Φ := bV w.heap.size a5 (nv .i64 10 (N))) 3 7 rfl rfl rfl (Nat.zero_le _) (by kernel_rfl) ?_ | refine ai (Φ := bV w.heap.size a5 (nv .i64 10 (N))) 3 8 rfl rfl rfl (Nat.zero_le _) (by kernel_rfl) ?_ | refine ai (Φ := bV w.heap.size a5 (nv .i64 10 (N))) 3 9 rfl rfl rfl (Nat.zero_le _) (by kernel_rfl) ?_ | refine ai (Φ := bV w.heap.size a5 (nv .i64 10 (N))) 3 10 rfl rfl rfl (Nat.zero_le _) (by kernel_rfl) ?_ | refine ai (Φ := bV w.heap.size a5 (nv .i64 10 (N))) 3 11 rfl rfl rfl (Nat.zero_le _) (by kernel_rfl) ?_
  all_goals first | refine ai (Φ := bV w.heap.size a6 (nv .i64 10 (1))) 4 5 rfl rfl rfl (Nat.zero_le _) (by kernel_rfl) ?_ | refine ai (Φ := bV w.heap.size a6 (nv .i64 10 (1))) 4 6 rfl rfl rfl (Nat.zero_le _) (by kernel_rfl) ?_ | refine ai (Φ := bV w.heap.size a6 (nv .i64 10 (1))) 4 7 rfl rfl rfl (Nat.zero_le _) (by kernel_rfl) ?_ | refine ai (Φ := bV w.heap.size a6 (nv .i64 10 (1))) 4 8 rfl rfl rfl (Nat.zero_le _) (by kernel_rfl) ?_ | refine ai (Φ := bV w.heap.size a6 (nv .i64 10 (1))) 4 9 rfl rfl rfl (Nat.zero_le _) (by kernel_rfl) ?_ | refine ai (Φ := bV w.heap.size a6 (nv .i64 10 (1))) 4 10 rfl rfl rfl (Nat.zero_le _) (by kernel_rfl) ?_ | refine ai (Φ := bV w.heap.size a6 (nv .i64 10 (1))) 4 11 rfl rfl rfl (Nat.zero_le _) (by kernel_rfl) ?_
  all_goals exact hI2 _ ⟨(a5, c5, a6, c6), hc5⟩ (by dsimp only; ((with_reducible show wk _ _); repeat' (first | exact trivial | exact au _ | refine eY ?_ | refine eqS ?_ | apply And.intro | exact yV | fail)); all_goals exact fun b x h => h)
 obtain ⟨⟨ta, tc, tb, te⟩, hct⟩ := t
 dsimp only at hct ⊢
 repeat' (first | exact ⟨⟩ | refine yG ?_ ?_ | (refine dF .i64 10 ⟨false, 86400, 1⟩ hw0 (by kernel_rfl) rfl (fun β w' hm => hG w' hm.below) (fun a7 c7 a8 c8 Nw => ?_)) | refine yK (.agg [.bool false, .any (.slice a8 (ae.nd 10 1) c8), .any (.slice a7 (ae.nd 10 86400) c7)]) (fun β w hm => CG false a7 a8 _ _ _ _ w) ?_ | (refine dF .i64 10 ⟨false, N, 86400⟩ hw0 (by kernel_rfl) rfl (fun β w' hm => hU ⟨false, N, 1, ta, tc, tb, te⟩ ⟨false, 1, 86400, a8, c8, a7, c7⟩ w' hm.below (aX.of (df hm) (df hm) hct) (aX.of (df hm) (df hm) ⟨Nw.2, Nw.1, Nw.4, Nw.3⟩) rfl rfl) (fun ra rc rb re hcr => ?_)) | refine yO (aJ underlying121) ?_ | intro _)
 all_goals first | (exfalso; omega) | (refine ret fun β w' hm => ?_; exact ⟨⟨false, N, 86400, ra, rc, rb, re⟩, rfl, rfl, hcr, oK (df hm) (nS hm) (df hm) (nS hm), hm.below⟩)
variable (c x : List UInt8) (l2 : List (List UInt8)) (h3 : l.length = 3) (hx2 : (bP l)[2]? = some (.string (ah c)))
 (hS2 : ∀ w' : World, Calls Tryz.prog 126 #[.string (ah c), .int .u8 46] w' (fun e w'' => BW w' w'' /\ ∃ t : Nat × Nat, e = .returned (.slice (some ⟨t.1, 0, none⟩) (l2).length t.2) /\ ∀ q ∈ [((some ⟨t.1, 0, none⟩ : Option Addr), bP l2)], aS q.1 q.2 w'' /\ bz q.1 q.2 w'))
 (hl2 : 1 <= l2.length) (hy0 : (bP l2)[0]? = some (.string (ah x)))
 (A2 : ∀ w' : World, QC 127 #[.string (ah x)] w' (.bool (af.fJ x)))
 (M2 : af.fJ x = true -> x.length = 2 -> ∀ w' : World, QC 132 #[.string (ah x)] w' (.int .i64 (ae.ax x : Nat)))
 (q : List UInt8) (hy1 : l2.length = 2 -> (bP l2)[1]? = some (.string (ah q)))
 (A3 : ∀ w' : World, QC 127 #[.string (ah q)] w' (.bool (af.fJ q)))
include h3 hx2 hS2 hl2 hy0 A2 M2 hy1 A3
theorem PO (h : ¬ (l2.length <= 2 /\ x.length = 2 /\ af.fJ x = true /\ ae.ax x <= 59 /\ (l2.length = 2 -> af.fJ q = true /\ q.length <= 9))) : Calls Tryz.prog 66 #[.string (ah s)] w (dU .i64 10 ⟨false, 0, 0⟩ false w) := by
 have _u := And.intro hl hG
 rw [d0] at A0
 rw [d1] at A1
 replace M0 := M0 d0 la
 replace M1 := M1 d1 lb
 rw [hva] at M0
 rw [hvb] at M1
 generalize hn : l.length = n at *
 refine yE func66 rfl results66 ntmps66 [] [300004] [.str s] w ?_
 repeat' (first | exact ⟨⟩ | refine yG ?_ ?_ | (refine bT (T := Nat × Nat) (fun t => .any (.slice (some ⟨t.1, 0, none⟩) n t.2)) (fun t => [(some ⟨t.1, 0, none⟩, bP l)]) hw0 (by kernel_rfl) rfl (fun _ => rfl) (fun β w' hm => hS w') (fun p _ => ?_)) | refine yA (.lit true) (fun _ => A0) ?_ | refine yA (.lit true) (fun _ => A1) ?_ | refine yA (.int .i64 (va : Nat)) (fun _ => M0) ?_ | refine yA (.int .i64 (vb : Nat)) (fun _ => M1) ?_ | refine yO (aJ underlying121) ?_ | refine yN (j := 0) underlying121 sizeOf9 ?_ | refine yN (j := 1) underlying121 sizeOf9 ?_ | refine yO (v := .str a) (aP 1 (.str a) (fun w => isAgg9 w) rfl (fun β => hx0)) ?_ | refine yO (v := .str b) (aP 1 (.str b) (fun w => isAgg9 w) rfl (fun β => hx1)) ?_ | intro _)
 all_goals first | (exfalso; omega) | skip
 refine iM 3 hw0 ?_
 refine yJ (T := {t : Option Addr × Nat × Option Addr × Nat // iw 10 ⟨false, N, 1, t.1, t.2.1, t.2.2.1, t.2.2.2⟩}) (fun t => ⟨[(2, .ptr 0 0), (4, .any (.slice (some ⟨p.1, 0, none⟩) n p.2)), (5, .ptr 2 0)], [(0, true, .cells 72 [.lit false, .any (.slice none 0 0), .any (.slice none 0 0)]), (1, false, .aK (bV w.heap.size (some ⟨p.1, 0, none⟩) (bP l))), (2, true, .cells 72 [.bool false, .any (.slice t.1.1 (ae.nd 10 N) t.1.2.1), .any (.slice t.1.2.2.1 (ae.nd 10 1) t.1.2.2.2)]), (3, false, .aK (bV w.heap.size t.1.1 (nv .i64 10 N))), (4, false, .aK (bV w.heap.size t.1.2.2.1 (nv .i64 10 1)))], 5, 151⟩) [] [200004] [] [] (fun I2 hI2 => ?_) (fun t => ?_)
 ·repeat' (first | exact ⟨⟩ | refine yG ?_ ?_ | refine yA (.int .i64 (va : Nat)) (fun _ => M0) ?_ | refine yA (.int .i64 (vb : Nat)) (fun _ => M1) ?_ | (refine dF .i64 10 ⟨false, N, 1⟩ hw0 (by kernel_rfl) rfl (fun β w' hm => hW w' hm.below) (fun a5 c5 a6 c6 hc5 => ?_)) | ((with_reducible show ∃ _ : SV, _); first | refine yN (j := 0) underlying121 sizeOf9 ?_ | refine yN (j := 1) underlying121 sizeOf9 ?_ | refine yO (v := .str a) (aP 1 (.str a) (fun w => isAgg9 w) rfl (fun β => hx0)) ?_ | refine yO (v := .str b) (aP 1 (.str b) (fun w => isAgg9 w) rfl (fun β => hx1)) ?_ | (refine ⟨.int .i64 (va : Nat), by kernel_rfl, trivial, fun β w hm => M0 w, ?_⟩) | (refine ⟨.int .i64 (vb : Nat), by kernel_rfl, trivial, fun β w hm => M1 w, ?_⟩)) | intro _)
  all_goals refine qY 5 2 rfl rfl rfl (Nat.zero_le _) ?_
  all_goals first | refine ai (Φ := bV w.heap.size a5 (nv .i64 10 (N))) 3 5 rfl rfl rfl (Nat.zero_le _) (by kernel_rfl) ?_ | refine ai (Φ := bV w.heap.size a5 (nv .i64 10 (N))) 3 6 rfl rfl rfl (Nat.zero_le _) (by kernel_rfl) ?_ | refine ai (Φ := bV w.heap.size a5 (nv .i64 10 (N))) 3 7 rfl rfl rfl (Nat.zero_le _) (by kernel_rfl) ?_ | refine ai (Φ := bV w.heap.size a5 (nv .i64 10 (N))) 3 8 rfl rfl rfl (Nat.zero_le _) (by kernel_rfl) ?_ | refine ai (Φ := bV w.heap.size a5 (nv .i64 10 (N))) 3 9 rfl rfl rfl (Nat.zero_le _) (by kernel_rfl) ?_ | refine ai (Φ := bV w.heap.size a5 (nv .i64 10 (N))) 3 10 rfl rfl rfl (Nat.zero_le _) (by kernel_rfl) ?_ | refine ai (Φ := bV w.heap.size a5 (nv .i64 10 (N))) 3 11 rfl rfl rfl (Nat.zero_le _) (by kernel_rfl) ?_
  all_goals first | refine ai (Φ := bV w.heap.size a6 (nv .i64 10 (1))) 4 5 rfl rfl rfl (Nat.zero_le _) (by kernel_rfl) ?_ | refine ai (Φ := bV w.heap.size a6 (nv .i64 10 (1))) 4 6 rfl rfl rfl (Nat.zero_le _) (by kernel_rfl) ?_ | refine ai (Φ := bV w.heap.size a6 (nv .i64 10 (1))) 4 7 rfl rfl rfl (Nat.zero_le _) (by kernel_rfl) ?_ | refine ai (Φ := bV w.heap.size a6 (nv .i64 10 (1))) 4 8 rfl rfl rfl (Nat.zero_le _) (by kernel_rfl) ?_ | refine ai (Φ := bV w.heap.size a6 (nv .i64 10 (1))) 4 9 rfl rfl rfl (Nat.zero_le _) (by kernel_rfl) ?_ | refine ai (Φ := bV w.heap.size a6 (nv .i64 10 (1))) 4 10 rfl rfl rfl (Nat.zero_le _) (by kernel_rfl) ?_ | refine ai (Φ := bV w.heap.size a6 (nv .i64 10 (1))) 4 11 rfl rfl rfl (Nat.zero_le _) (by kernel_rfl) ?_
  all_goals exact hI2 _ ⟨(a5, c5, a6, c6), hc5⟩ (by dsimp only; ((with_reducible show wk _ _); repeat' (first | exact trivial | exact au _ | refine eY ?_ | refine eqS ?_ | apply And.intro | exact yV | fail)); all_goals exact fun b x h => h)
 obtain ⟨⟨ta, tc, tb, te⟩, hct⟩ := t
 dsimp only at hct ⊢
 generalize af.fJ x = D2 at *
 generalize af.fJ q = D3 at *
 generalize ae.ax x = vx at *
 by_cases hn2 : l2.length = 2
 ·replace hy1 := hy1 hn2
  repeat' (first | exact ⟨⟩ | refine yG ?_ ?_ | (refine bT (T := Nat × Nat) (fun t => .any (.slice (some ⟨t.1, 0, none⟩) l2.length t.2)) (fun t => [(some ⟨t.1, 0, none⟩, bP l2)]) hw0 (by kernel_rfl) rfl (fun _ => rfl) (fun β w' hm => hS2 w') (fun p2 _ => ?_)) | refine yA (.bool D2) (fun _ => A2) ?_ | refine yK (.int .i64 (vx : Nat)) (fun β w hm => M2 (by simpa using (by assumption : (!D2) = false)) (by omega) w) ?_ | refine yA (.bool D3) (fun _ => A3) ?_ | refine yO (aJ underlying121) ?_ | refine yN (j := 0) underlying121 sizeOf9 ?_ | refine yN (j := 1) underlying121 sizeOf9 ?_ | refine yN (j := 2) underlying121 sizeOf9 ?_ | refine yO (v := .str c) (aP 1 (.str c) (fun w => isAgg9 w) rfl (fun β => hx2)) ?_ | refine yO (v := .str x) (aP 5 (.str x) (fun w => isAgg9 w) rfl (fun β => hy0)) ?_ | refine yO (v := .str q) (aP 5 (.str q) (fun w => isAgg9 w) rfl (fun β => hy1)) ?_ | intro _)
  all_goals first | (exfalso; omega) | (refine ret fun β w' hm => ?_; exact ⟨⟨false, 0, 0, none, 0, none, 0⟩, by simp [bI.val, ae.aT, SV.den, SV.aF], rfl, dM, sW, hm.below⟩) | (exfalso; clear hS hS2 A0 A1 A2 A3 M0 M1 M2; apply h; refine ⟨?_, ?_, ?_, ?_, fun _ => ⟨?_, ?_⟩⟩ <;> first | omega | (simp_all; done))
 ·repeat' (first | exact ⟨⟩ | refine yG ?_ ?_ | (refine bT (T := Nat × Nat) (fun t => .any (.slice (some ⟨t.1, 0, none⟩) l2.length t.2)) (fun t => [(some ⟨t.1, 0, none⟩, bP l2)]) hw0 (by kernel_rfl) rfl (fun _ => rfl) (fun β w' hm => hS2 w') (fun p2 _ => ?_)) | refine yA (.bool D2) (fun _ => A2) ?_ | refine yK (.int .i64 (vx : Nat)) (fun β w hm => M2 (by simpa using (by assumption : (!D2) = false)) (by omega) w) ?_ | refine yO (aJ underlying121) ?_ | refine yN (j := 0) underlying121 sizeOf9 ?_ | refine yN (j := 1) underlying121 sizeOf9 ?_ | refine yN (j := 2) underlying121 sizeOf9 ?_ | refine yO (v := .str c) (aP 1 (.str c) (fun w => isAgg9 w) rfl (fun β => hx2)) ?_ | refine yO (v := .str x) (aP 5 (.str x) (fun w => isAgg9 w) rfl (fun β => hy0)) ?_ | intro _)
  all_goals first | (exfalso; omega) | (refine ret fun β w' hm => ?_; exact ⟨⟨false, 0, 0, none, 0, none, 0⟩, by simp [bI.val, ae.aT, SV.den, SV.aF], rfl, dM, sW, hm.below⟩) | (exfalso; clear hS hS2 A0 A1 A2 A3 M0 M1 M2; apply h; refine ⟨?_, ?_, ?_, ?_, fun _ => ⟨?_, ?_⟩⟩ <;> first | omega | (simp_all; done))
end
section
variable (s : List UInt8) (p : Nat) (w : World) (hw0 : 0 < w.heap.size) (hl : s.length <= 100000) (hp : p <= s.length) (h1 : ∀ i, i < p -> ¬ ((s.getD i 0).toNat : Int) = 32)
include hw0 hl hp h1
theorem PD (h : p = s.length) : Calls Tryz.prog 67 #[.string (ah s)] w (dU .i64 10 ⟨false, 0, 0⟩ false w) := by
 have _u := And.intro hw0 hp
 refine yE func67 rfl results67 ntmps67 [] [] [.str s] w ?_
 repeat' (first | exact ⟨⟩ | refine yG ?_ ?_ | intro _)
 refine yZ (T := {i : Nat // i <= p}) (fun t => ⟨[(0, .str s), (2, .ptr 0 0), (10, .int .i64 (s.length : Nat)), (11, .int .i64 (t.1 : Nat))], [(0, true, .cells 72 [.lit false, .any (.slice none 0 0), .any (.slice none 0 0)])], 1, 45⟩) (fun t => p - t.1) ⟨0, Nat.zero_le _⟩ [] [] (fun t I hI => ?_)
 obtain ⟨i, hi⟩ := t
 dsimp only at hI ⊢
 have hq := (s.getD i 0).toNat_lt
 by_cases hlt : i < p
 ·have hc := h1 i hlt
  repeat' (first | exact ⟨⟩ | refine yG ?_ ?_ | ((with_reducible show ∃ _, _); first | (refine ⟨i, rfl, by omega, ?_⟩)) | intro _)
  all_goals first | (exfalso; omega) | (exfalso; exact hc (by assumption)) | (refine hI _ ⟨i + 1, by omega⟩ (by dsimp only; omega) yW; done)
 ·repeat' (first | exact ⟨⟩ | refine yG ?_ ?_ | ((with_reducible show ∃ _, _); first | (refine ⟨i, rfl, by omega, ?_⟩)) | intro _)
  all_goals first | (exfalso; omega) | (refine ret fun β w' hm => ?_; exact ⟨⟨false, 0, 0, none, 0, none, 0⟩, by simp [bI.val, ae.aT, SV.den, SV.aF], rfl, dM, sW, hm.below⟩)
variable (hps : p < s.length) (h2 : ((s.getD p 0).toNat : Int) = 32) (N1 N2 : ae.Num) (o1 o2 : Bool)
 (hD : ∀ w' : World, BW w w' -> Calls Tryz.prog 65 #[.string (ah (List.take p s))] w' (dU .i64 10 N1 o1 w'))
 (hT : ∀ w' : World, BW w w' -> Calls Tryz.prog 66 #[.string (ah (List.drop (p + 1) s))] w' (dU .i64 10 N2 o2 w'))
include hps h2 hD hT
theorem yw (P : ae.Num) (hA : o1 = true -> o2 = true -> ∀ (x y : bI) (w' : World), BW w w' -> aX .i64 10 x w' -> aX .i64 10 y w' -> x.num = N1 -> y.num = N2 -> Calls Tryz.prog 131 #[x.val 10, y.val 10] w' (fF .i64 10 P w')) (hZ : ¬ (o1 = true /\ o2 = true) -> P = ⟨false, 0, 0⟩) : Calls Tryz.prog 67 #[.string (ah s)] w (dU .i64 10 P (o1 && o2) w) := by
 obtain ⟨m1, n1, d1⟩ := N1
 obtain ⟨m2, n2, d2⟩ := N2
 refine yE func67 rfl results67 ntmps67 [] [] [.str s] w ?_
 repeat' (first | exact ⟨⟩ | refine yG ?_ ?_ | intro _)
 refine yZ (T := {i : Nat // i <= p}) (fun t => ⟨[(0, .str s), (2, .ptr 0 0), (10, .int .i64 (s.length : Nat)), (11, .int .i64 (t.1 : Nat))], [(0, true, .cells 72 [.lit false, .any (.slice none 0 0), .any (.slice none 0 0)])], 1, 45⟩) (fun t => p - t.1) ⟨0, Nat.zero_le _⟩ [] [] (fun t I hI => ?_)
 obtain ⟨i, hi⟩ := t
 dsimp only at hI ⊢
 have hq := (s.getD i 0).toNat_lt
 by_cases hlt : i < p
 ·have hc := h1 i hlt
  clear hD hT hA
  repeat' (first | exact ⟨⟩ | refine yG ?_ ?_ | ((with_reducible show ∃ _, _); first | (refine ⟨i, rfl, by omega, ?_⟩)) | intro _)
  all_goals first | (exfalso; omega) | (exfalso; exact hc (by assumption)) | (refine hI _ ⟨i + 1, by omega⟩ (by dsimp only; omega) yW; done)
 ·obtain rfl : i = p := by omega
  clear hI h1
  cases o1 with
  | false =>
    rw [hZ (fun h => by cases h.1)]
    cases o2 with
    | false =>
      repeat' (first | exact ⟨⟩ | refine yG ?_ ?_ | (refine gG .i64 10 ⟨m1, n1, d1⟩ false hw0 (by kernel_rfl) rfl (fun β w' hm => hD w' hm.below) (fun a1 c1 a2 c2 hc1 => ?_)) | (refine gG .i64 10 ⟨m2, n2, d2⟩ false hw0 (by kernel_rfl) rfl (fun β w' hm => hT w' hm.below) (fun a3 c3 a4 c4 hc2 => ?_)) | ((with_reducible show ∃ _, _); first | (refine ⟨i, rfl, by omega, ?_⟩) | (refine ⟨i + 1, by omega, by omega, ?_⟩)) | intro _)
      all_goals first | (exfalso; omega) | (refine ret fun β w' hm => ?_; exact ⟨⟨false, 0, 0, none, 0, none, 0⟩, by simp [bI.val, ae.aT, SV.den, SV.aF], rfl, dM, sW, hm.below⟩)
    | true =>
      repeat' (first | exact ⟨⟩ | refine yG ?_ ?_ | (refine gG .i64 10 ⟨m1, n1, d1⟩ false hw0 (by kernel_rfl) rfl (fun β w' hm => hD w' hm.below) (fun a1 c1 a2 c2 hc1 => ?_)) | (refine gG .i64 10 ⟨m2, n2, d2⟩ true hw0 (by kernel_rfl) rfl (fun β w' hm => hT w' hm.below) (fun a3 c3 a4 c4 hc2 => ?_)) | ((with_reducible show ∃ _, _); first | (refine ⟨i, rfl, by omega, ?_⟩) | (refine ⟨i + 1, by omega, by omega, ?_⟩)) | intro _)
      all_goals first | (exfalso; omega) | (refine ret fun β w' hm => ?_; exact ⟨⟨false, 0, 0, none, 0, none, 0⟩, by simp [bI.val, ae.aT, SV.den, SV.aF], rfl, dM, sW, hm.below⟩)
  | true =>
    cases o2 with
    | false =>
      rw [hZ (fun h => by cases h.2)]
      repeat' (first | exact ⟨⟩ | refine yG ?_ ?_ | (refine gG .i64 10 ⟨m1, n1, d1⟩ true hw0 (by kernel_rfl) rfl (fun β w' hm => hD w' hm.below) (fun a1 c1 a2 c2 hc1 => ?_)) | (refine gG .i64 10 ⟨m2, n2, d2⟩ false hw0 (by kernel_rfl) rfl (fun β w' hm => hT w' hm.below) (fun a3 c3 a4 c4 hc2 => ?_)) | ((with_reducible show ∃ _, _); first | (refine ⟨i, rfl, by omega, ?_⟩) | (refine ⟨i + 1, by omega, by omega, ?_⟩)) | intro _)
      all_goals first | (exfalso; omega) | (refine ret fun β w' hm => ?_; exact ⟨⟨false, 0, 0, none, 0, none, 0⟩, by simp [bI.val, ae.aT, SV.den, SV.aF], rfl, dM, sW, hm.below⟩)
    | true =>
      replace hA := hA rfl rfl
      obtain ⟨m3, n3, d3⟩ := P
      repeat' (first | exact ⟨⟩ | refine yG ?_ ?_ | (refine gG .i64 10 ⟨m1, n1, d1⟩ true hw0 (by kernel_rfl) rfl (fun β w' hm => hD w' hm.below) (fun a1 c1 a2 c2 hc1 => ?_)) | (refine gG .i64 10 ⟨m2, n2, d2⟩ true hw0 (by kernel_rfl) rfl (fun β w' hm => hT w' hm.below) (fun a3 c3 a4 c4 hc2 => ?_)) | (refine dF .i64 10 ⟨m3, n3, d3⟩ hw0 (by kernel_rfl) rfl (fun β w' hm => hA ⟨m1, n1, d1, a1, c1, a2, c2⟩ ⟨m2, n2, d2, a3, c3, a4, c4⟩ w' hm.below (aX.of (df hm) (df hm) hc1) (aX.of (df hm) (df hm) hc2) rfl rfl) (fun a5 c5 a6 c6 hc3 => ?_)) | ((with_reducible show ∃ _, _); first | (refine ⟨i, rfl, by omega, ?_⟩) | (refine ⟨i + 1, by omega, by omega, ?_⟩)) | intro _)
      all_goals first | (exfalso; omega) | (refine ret fun β w' hm => ?_; exact ⟨⟨m3, n3, d3, a5, c5, a6, c6⟩, rfl, rfl, hc3, oK (df hm) (nS hm) (df hm) (nS hm), hm.below⟩)
end
end
section
open Go.RowKit
open Sym
attribute [local irreducible] Calls Sym.bM ae.nd ae.bu ae.upd ae.ak ae.ay
namespace Sym
end Sym
end
section
open Go.RowKit
open Sym
attribute [local irreducible] Calls Sym.bM ae.nd ae.bu ae.upd ae.ak ae.ay
theorem af.OQ {c : UInt8} {v : Int} (h : ((65 : Int) <= c.toNat /\ (c.toNat : Int) <= 90 /\ v = (c.toNat : Int) + 32) \/ (¬ ((65 : Int) <= c.toNat /\ (c.toNat : Int) <= 90) /\ v = (c.toNat : Int))) : [Value.int .u8 v] = dJ [af.zW c] := by
 have hc := af.I7 c
 rcases h with ⟨h1, h2, rfl⟩ | ⟨h1, rfl⟩
 ·rw [if_pos (by omega)] at hc
  simp [dJ, hc]
 ·rw [if_neg (by omega)] at hc
  simp [dJ, hc]
theorem af.BG {s : List UInt8} {n : Nat} (h : n < s.length) : af.low (s.take n) ++ [af.zW (s.getD n 0)] = af.low (s.take (n + 1)) := by
 rw [vF s n h]; simp [af.low]
theorem Et (s : List UInt8) (w : World) (hs : s.length <= 1000000) : QC 62 #[.string (ah s)] w (.string (ah (af.low s))) := by
 refine yE func62 rfl results62 ntmps62 [] [] [.str s] w ?_
 repeat' (first | exact ⟨⟩ | refine yG ?_ ?_ | intro _)
 refine yZ (T := {r : Nat × List UInt8 // r.1 <= s.length /\ r.2 = af.low (s.take r.1)}) (fun t => ⟨[(0, .str s), (3, .str t.1.2), (7, .int .i64 (s.length : Nat)), (8, .int .i64 (t.1.1 : Nat))], [], 0, 29⟩) (fun t => s.length - t.1.1) ⟨(0, []), Nat.zero_le _, rfl⟩ [] [] (fun t I hI => ?_)
 obtain ⟨⟨n, out⟩, hn, hr⟩ := t
 dsimp only at hn hr ⊢
 have hl : out.length <= 1000000 := by rw [hr, af.wF]; simp; omega
 have h1 := (s.getD n 0).toNat_lt
 repeat' (first | exact ⟨⟩ | refine yG ?_ ?_ | (refine wL rfl rfl underlying113 (fun w => sizeOf5 w) (fun w => zeroValue5 w) rfl (fun g => ?_)) | refine yO (nR 0 [af.zW (s.getD n 0)] underlying113 underlying5 underlying9 rfl (af.OQ (by omega))) ?_ | ((with_reducible show ∃ _, _); first | (refine ⟨n, rfl, by omega, ?_⟩)) | intro _)
 ·refine hI _ ⟨(n + 1, out ++ [af.zW (s.getD n 0)]), by dsimp only; omega, by dsimp only; rw [<- af.BG (by omega), hr]⟩ (by dsimp only; omega) yW
 ·refine hI _ ⟨(n + 1, out ++ [af.zW (s.getD n 0)]), by dsimp only; omega, by dsimp only; rw [<- af.BG (by omega), hr]⟩ (by dsimp only; omega) yW
 ·refine hI _ ⟨(n + 1, out ++ [af.zW (s.getD n 0)]), by dsimp only; omega, by dsimp only; rw [<- af.BG (by omega), hr]⟩ (by dsimp only; omega) yW
 ·rw [hr, List.take_of_length_le (by omega)]; rfl
theorem af.La (s : List UInt8) : (af.jm s).items = [] := by
 unfold af.jm
 split <;> rfl
section
variable (t o : af.VT) (a b : Option Addr) (cap cap' : Nat) (n : Int) (w : World) (hw : XV w /\ XR w) (ht : oL w t a cap) (ho : oL w o b cap') (h0 : -9223372036854775808 <= n) (h1 : n <= 9223372036854775807)
include hw ht ho h0 h1
end
end
section
open Go.RowKit
open Sym
attribute [local irreducible] Calls Sym.bM ae.nd ae.bu ae.upd ae.ak ae.ay af.bD
abbrev NQ : List SV := [.fn 63 [], .fn 64 [], .fn 65 [], .fn 66 [], .fn 67 []]
theorem Jl : ∀ β, ∀ u ∈ SV.aF β NQ, u.cells = #[u] := by
 intro β u hu
 simp only [NQ, SV.aF, SV.den, List.mem_cons, List.not_mem_nil, or_false] at hu
 rcases hu with rfl | rfl | rfl | rfl | rfl <;> rfl
theorem Gj (w : World) : Calls Tryz.prog 12 #[.string (ah [])] w (ql af.Fp w) := by
 refine yE func12 rfl results12 ntmps12 [] [] [.str []] w ?_
 repeat' (first | exact ⟨⟩ | refine yG ?_ ?_ | intro _)
 all_goals first | rfl | (exfalso; contradiction)
section
variable (s : List UInt8) (w : World) (hs : s ≠ []) (hl : s.length <= 9223372036854775807)
include hs hl
theorem LG (hT : af.jV s ≠ 0) : Calls Tryz.prog 12 #[.string (ah s)] w (ql (af.eu 2) w) := by
 have T := fun (w' : World) => jh s w' hl
 have F := fun (w' : World) => nJ 2 w'
 generalize af.jV s = E at *
 refine yE func12 rfl results12 ntmps12 [] [] [.str s] w ?_
 repeat' (first | exact ⟨⟩ | refine yG ?_ ?_ | refine yA (.int .i64 E) (fun _ => T) ?_ | refine yA (.agg [.int .i64 4, .str [], .str [], .str [], .lit false, .int .i64 2, .int .i64 0, .int .i64 0, .any (.slice none 0 0)]) (fun _ => F) ?_ | intro _)
 all_goals first | rfl | (exfalso; contradiction) | (exfalso; omega)
variable (hT : af.jV s = 0)
include hT
theorem Gl (h0 : ((s.getD 0 0).toNat : Int) = 39) : Calls Tryz.prog 12 #[.string (ah s)] w (ql (af.jm (List.drop 1 s)) w) := by
 have T := fun (w' : World) => jh s w' hl
 rw [hT] at T
 have hp := List.length_pos_iff.2 hs
 have X := fun (w' : World) => CO (List.drop 1 s) w' (by rw [List.length_drop]; omega)
 obtain ⟨V, hV⟩ : ∃ V, af.jm (List.drop 1 s) = V := ⟨_, rfl⟩
 have hi : V.items = [] := by rw [<- hV]; exact af.La _
 rw [hV] at X ⊢
 obtain ⟨k, ⟨n1, n2⟩, tx, on, cd, R, L, its⟩ := V
 obtain rfl : its = [] := hi
 refine yE func12 rfl results12 ntmps12 [] [] [.str s] w ?_
 repeat' (first | exact ⟨⟩ | refine yG ?_ ?_ | refine yA (.int .i64 0) (fun _ => T) ?_ | refine yA (.agg [.int .i64 k, .str n1, .str n2, .str tx, .bool on, .int .i64 cd, .int .i64 R, .int .i64 L, .any (.slice none 0 0)]) (fun _ => X) ?_ | ((with_reducible show ∃ _, _); first | (refine ⟨0, rfl, hp, ?_⟩) | (refine ⟨1, rfl, by omega, ?_⟩)) | intro _)
 all_goals first | rfl | (exfalso; contradiction) | (exfalso; omega)
variable (hq : ¬ ((s.getD 0 0).toNat : Int) = 39) (hl2 : s.length <= 1000000)
include hq hl2
theorem Jm (h : af.low s = [116, 114, 117, 101] \/ af.low s = [102, 97, 108, 115, 101]) : Calls Tryz.prog 12 #[.string (ah s)] w (ql (af.AP (decide (af.low s = [116, 114, 117, 101]))) w) := by
 have T := fun (w' : World) => jh s w' hl
 rw [hT] at T
 have hp := List.length_pos_iff.2 hs
 have LL := fun (w' : World) => Et s w' hl2
 have B1 := fun (w' : World) => Eo true w'
 have B0 := fun (w' : World) => Eo false w'
 generalize af.low s = l at *
 have hne : ¬ ([102, 97, 108, 115, 101] : List UInt8) = [116, 114, 117, 101] := by decide
 rcases h with rfl | rfl
 ·rw [decide_eq_true rfl]
  refine yE func12 rfl results12 ntmps12 [] [] [.str s] w ?_
  repeat' (first | exact ⟨⟩ | refine yG ?_ ?_ | refine yA (.int .i64 0) (fun _ => T) ?_ | refine yA (.str [116, 114, 117, 101]) (fun _ => LL) ?_ | refine yA (.agg [.int .i64 3, .str [], .str [], .str [], .lit true, .int .i64 0, .int .i64 0, .int .i64 0, .any (.slice none 0 0)]) (fun _ => B1) ?_ | ((with_reducible show ∃ _ : SV, _); first | (refine ⟨.str [116, 114, 117, 101], by kernel_rfl, trivial, fun β w hm => LL w, ?_⟩)) | ((with_reducible show ∃ _, _); first | (refine ⟨0, rfl, hp, ?_⟩)) | intro _)
  all_goals first | rfl | (exfalso; contradiction) | (exfalso; omega) | (exfalso; simp_all; done)
 ·rw [decide_eq_false hne]
  refine yE func12 rfl results12 ntmps12 [] [] [.str s] w ?_
  repeat' (first | exact ⟨⟩ | refine yG ?_ ?_ | refine yA (.int .i64 0) (fun _ => T) ?_ | refine yA (.str [102, 97, 108, 115, 101]) (fun _ => LL) ?_ | refine yA (.agg [.int .i64 3, .str [], .str [], .str [], .lit false, .int .i64 0, .int .i64 0, .int .i64 0, .any (.slice none 0 0)]) (fun _ => B0) ?_ | ((with_reducible show ∃ _ : SV, _); first | (refine ⟨.str [102, 97, 108, 115, 101], by kernel_rfl, trivial, fun β w hm => LL w, ?_⟩)) | ((with_reducible show ∃ _, _); first | (refine ⟨0, rfl, hp, ?_⟩)) | intro _)
  all_goals first | rfl | (exfalso; contradiction) | (exfalso; omega) | (exfalso; simp_all; done)
variable (hw0 : 0 < w.heap.size) (Zv : XR w) (hL1 : af.low s ≠ [116, 114, 117, 101]) (hL2 : af.low s ≠ [102, 97, 108, 115, 101]) (ANS : af.VT) (hi : ANS.items = [])
 (hX : ∀ i : Nat, 1 <= i -> i < 9 -> s = af.bD i -> ∀ w' : World, Calls Tryz.prog 18 #[.int .i64 (i : Nat)] w' (ql ANS w'))
 (NA NB NC ND NE : ae.Num) (oA oB oC oD oE : Bool)
 (hA : ∀ w' : World, BW w w' -> Calls Tryz.prog 63 #[.string (ah s)] w' (dU .i64 10 NA oA w'))
 (hB : ∀ w' : World, BW w w' -> Calls Tryz.prog 64 #[.string (ah s)] w' (dU .i64 10 NB oB w'))
 (hC : ∀ w' : World, BW w w' -> Calls Tryz.prog 65 #[.string (ah s)] w' (dU .i64 10 NC oC w'))
 (hD : ∀ w' : World, BW w w' -> Calls Tryz.prog 66 #[.string (ah s)] w' (dU .i64 10 ND oD w'))
 (hE : ∀ w' : World, BW w w' -> Calls Tryz.prog 67 #[.string (ah s)] w' (dU .i64 10 NE oE w'))
 (nA : (∀ i, 1 <= i -> i < 9 -> s ≠ af.bD i) -> oA = true -> ∀ (x : bI) (w' : World), BW w w' -> aX .i64 10 x w' -> x.num = NA -> Calls Tryz.prog 68 #[x.val 10] w' (ql ANS w'))
 (nB : (∀ i, 1 <= i -> i < 9 -> s ≠ af.bD i) -> oA = false -> oB = true -> ∀ (x : bI) (w' : World), BW w w' -> aX .i64 10 x w' -> x.num = NB -> Calls Tryz.prog 68 #[x.val 10] w' (ql ANS w'))
 (nC : (∀ i, 1 <= i -> i < 9 -> s ≠ af.bD i) -> oA = false -> oB = false -> oC = true -> ∀ (x : bI) (w' : World), BW w w' -> aX .i64 10 x w' -> x.num = NC -> Calls Tryz.prog 68 #[x.val 10] w' (ql ANS w'))
 (nD : (∀ i, 1 <= i -> i < 9 -> s ≠ af.bD i) -> oA = false -> oB = false -> oC = false -> oD = true -> ∀ (x : bI) (w' : World), BW w w' -> aX .i64 10 x w' -> x.num = ND -> Calls Tryz.prog 68 #[x.val 10] w' (ql ANS w'))
 (nE : (∀ i, 1 <= i -> i < 9 -> s ≠ af.bD i) -> oA = false -> oB = false -> oC = false -> oD = false -> oE = true -> ∀ (x : bI) (w' : World), BW w w' -> aX .i64 10 x w' -> x.num = NE -> Calls Tryz.prog 68 #[x.val 10] w' (ql ANS w'))
 (nZ : (∀ i, 1 <= i -> i < 9 -> s ≠ af.bD i) -> oA = false -> oB = false -> oC = false -> oD = false -> oE = false -> ∀ w' : World, Calls Tryz.prog 21 #[.string (ah s)] w' (ql ANS w'))
include hw0 Zv hL1 hL2 hi hX hA nA hB nB hC nC hD nD hE nE nZ
theorem Jn : Calls Tryz.prog 12 #[.string (ah s)] w (ql ANS w) := by
 have T := fun (w' : World) => jh s w' hl
 rw [hT] at T
 have hp := List.length_pos_iff.2 hs
 have LL := fun (w' : World) => Et s w' hl2
 have hc := fun (i : Nat) (h : i < 9) (w' : World) (hb : BW w w') => (Zv.below hb) i h
 obtain ⟨vk, ⟨v1, v2⟩, vt, vo, vc, vr, vl, its⟩ := ANS
 obtain rfl : its = [] := hi
 generalize af.low s = l at *
 refine yE func12 rfl results12 ntmps12 [] [] [.str s] w ?_
 repeat' (first | exact ⟨⟩ | refine yG ?_ ?_ | refine yA (.int .i64 0) (fun _ => T) ?_ | refine yA (.str l) (fun _ => LL) ?_ | ((with_reducible show ∃ _ : SV, _); first | (refine ⟨.str l, by kernel_rfl, trivial, fun β w hm => LL w, ?_⟩)) | ((with_reducible show ∃ _, _); first | (refine ⟨0, rfl, hp, ?_⟩)) | intro _)
 all_goals first | (exfalso; contradiction) | skip
 refine yZ (T := {i : Nat // (1 <= i /\ i <= 9) /\ ∀ j, 1 <= j -> j < i -> s ≠ af.bD j}) (fun t => ⟨[(0, .str s), (2, .ptr 0 0), (3, .int .i64 (t.1 : Nat))], [(0, true, .cells 28 [.int .i64 0, .str [], .str [], .str [], .lit false, .int .i64 0, .int .i64 0, .int .i64 0, .any (.slice none 0 0)])], 1, 64⟩) (fun t => 9 - t.1) ⟨1, by omega, fun j h1 h2 => by omega⟩ [] [] (fun t I hI => ?_)
 obtain ⟨i, ⟨hi1, hi⟩, hne⟩ := t
 dsimp only at hI ⊢
 by_cases hlt : i < 9
 ·have ZY := hX i hi1 hlt
  have hnx : s ≠ af.bD i -> ∀ j, 1 <= j -> j < i + 1 -> s ≠ af.bD j := fun h j h1 h2 => by
   by_cases e : j = i
   ·rw [e]; exact h
   ·exact hne j h1 (by omega)
  have hci := hc i hlt
  generalize af.bD i = XX at *
  clear hX hc
  repeat' (first | exact ⟨⟩ | refine yG ?_ ?_ | refine yK (.agg [.int .i64 vk, .str v1, .str v2, .str vt, .bool vo, .int .i64 vc, .int .i64 vr, .int .i64 vl, .any (.slice none 0 0)]) (fun β w hm => ZY (by assumption) w) ?_ | refine yO (vK (j := i) rfl underlying81 (fun w => sizeOf9 w) (by omega)) ?_ | refine yO (v := .str XX) (dh (fun w => isAgg9 w) (fun w' hb β => by rw [Nat.mul_one]; exact (congrArg _ (by simp [Addr.add]; omega)).trans (hci w' hb))) ?_ | intro _)
  all_goals first | (exfalso; omega) | rfl | (refine hI _ ⟨i + 1, by omega, hnx (by assumption)⟩ (by dsimp only; omega) yW; done)
 ·have hno : ∀ j, 1 <= j -> j < 9 -> s ≠ af.bD j := fun j h1 h2 => hne j h1 (by omega)
  have e9 : i = 9 := by omega
  subst e9
  clear hX hc hne hI
  replace nZ := nZ hno
  replace nA := nA hno
  replace nB := nB hno
  replace nC := nC hno
  replace nD := nD hno
  replace nE := nE hno
  repeat' (first | exact ⟨⟩ | refine yG ?_ ?_ | ((with_reducible show ∃ _ : SV, _); first | (refine ⟨.agg NQ, ?ok, nP rfl underlying86 (fun w => sizeOf85 w) (fun w => zeroValue86 w) rfl Jl, ?_⟩; (case ok => exact fun _ h => h))) | intro _)
  all_goals first | (exfalso; omega) | skip
  refine yZ (T := {i : Nat // i <= 5 /\ (0 < i -> oA = false) /\ (1 < i -> oB = false) /\ (2 < i -> oC = false) /\ (3 < i -> oD = false) /\ (4 < i -> oE = false)}) (fun t => ⟨[(0, .str s), (2, .ptr 0 0), (48, .agg NQ), (49, .int .i64 (t.1 : Nat))], [(0, true, .cells 28 [.int .i64 0, .str [], .str [], .str [], .lit false, .int .i64 0, .int .i64 0, .int .i64 0, .any (.slice none 0 0)])], 1, 64⟩) (fun t => 5 - t.1) ⟨0, by omega, by omega, by omega, by omega, by omega, by omega⟩ [] [] (fun t I hI => ?_)
  obtain ⟨i, hi, z0, z1, z2, z3, z4⟩ := t
  dsimp only at hI ⊢
  rcases (by omega : i = 0 \/ i = 1 \/ i = 2 \/ i = 3 \/ i = 4 \/ i = 5) with rfl | rfl | rfl | rfl | rfl | rfl
  ·obtain ⟨m, nn, dd⟩ := NA
   cases oA with
   | true =>
     replace nA := nA  rfl
     repeat' (first | exact ⟨⟩ | refine yG ?_ ?_ | (refine gG .i64 10 ⟨m, nn, dd⟩ true hw0 (by kernel_rfl) rfl (fun β w' hm => hA w' hm.below) (fun a1 c1 a2 c2 hc1 => ?_)) | refine yK (.agg [.int .i64 vk, .str v1, .str v2, .str vt, .bool vo, .int .i64 vc, .int .i64 vr, .int .i64 vl, .any (.slice none 0 0)]) (fun β w hm => nA ⟨m, nn, dd, a1, c1, a2, c2⟩ w hm.below (aX.of (df hm) (df hm) hc1) rfl) ?_ | ((with_reducible show ∃ _ : SV, _); first | (refine ⟨.fn 63 [], ?ok, bH (j := 0) underlying86 (fun w => sizeOf85 w) (fun w => isAgg85 w) (by omega) rfl, ?_⟩; (case ok => exact fun _ _ => trivial))) | intro _)
     all_goals first | (exfalso; omega) | rfl
   | false =>
     repeat' (first | exact ⟨⟩ | refine yG ?_ ?_ | (refine gG .i64 10 ⟨m, nn, dd⟩ false hw0 (by kernel_rfl) rfl (fun β w' hm => hA w' hm.below) (fun a1 c1 a2 c2 hc1 => ?_)) | ((with_reducible show ∃ _ : SV, _); first | (refine ⟨.fn 63 [], ?ok, bH (j := 0) underlying86 (fun w => sizeOf85 w) (fun w => isAgg85 w) (by omega) rfl, ?_⟩; (case ok => exact fun _ _ => trivial))) | intro _)
     all_goals first | (exfalso; omega) | (refine hI _ ⟨1, by omega, fun _ => rfl, fun h => by omega, fun h => by omega, fun h => by omega, fun h => by omega⟩ (by dsimp only; omega) yW; done)
  ·obtain ⟨m, nn, dd⟩ := NB
   cases oB with
   | true =>
     replace nB := nB (z0 (by omega)) rfl
     repeat' (first | exact ⟨⟩ | refine yG ?_ ?_ | (refine gG .i64 10 ⟨m, nn, dd⟩ true hw0 (by kernel_rfl) rfl (fun β w' hm => hB w' hm.below) (fun a1 c1 a2 c2 hc1 => ?_)) | refine yK (.agg [.int .i64 vk, .str v1, .str v2, .str vt, .bool vo, .int .i64 vc, .int .i64 vr, .int .i64 vl, .any (.slice none 0 0)]) (fun β w hm => nB ⟨m, nn, dd, a1, c1, a2, c2⟩ w hm.below (aX.of (df hm) (df hm) hc1) rfl) ?_ | ((with_reducible show ∃ _ : SV, _); first | (refine ⟨.fn 64 [], ?ok, bH (j := 1) underlying86 (fun w => sizeOf85 w) (fun w => isAgg85 w) (by omega) rfl, ?_⟩; (case ok => exact fun _ _ => trivial))) | intro _)
     all_goals first | (exfalso; omega) | rfl
   | false =>
     repeat' (first | exact ⟨⟩ | refine yG ?_ ?_ | (refine gG .i64 10 ⟨m, nn, dd⟩ false hw0 (by kernel_rfl) rfl (fun β w' hm => hB w' hm.below) (fun a1 c1 a2 c2 hc1 => ?_)) | ((with_reducible show ∃ _ : SV, _); first | (refine ⟨.fn 64 [], ?ok, bH (j := 1) underlying86 (fun w => sizeOf85 w) (fun w => isAgg85 w) (by omega) rfl, ?_⟩; (case ok => exact fun _ _ => trivial))) | intro _)
     all_goals first | (exfalso; omega) | (refine hI _ ⟨2, by omega, fun _ => z0 (by omega), fun _ => rfl, fun h => by omega, fun h => by omega, fun h => by omega⟩ (by dsimp only; omega) yW; done)
  ·obtain ⟨m, nn, dd⟩ := NC
   cases oC with
   | true =>
     replace nC := nC (z0 (by omega)) (z1 (by omega)) rfl
     repeat' (first | exact ⟨⟩ | refine yG ?_ ?_ | (refine gG .i64 10 ⟨m, nn, dd⟩ true hw0 (by kernel_rfl) rfl (fun β w' hm => hC w' hm.below) (fun a1 c1 a2 c2 hc1 => ?_)) | refine yK (.agg [.int .i64 vk, .str v1, .str v2, .str vt, .bool vo, .int .i64 vc, .int .i64 vr, .int .i64 vl, .any (.slice none 0 0)]) (fun β w hm => nC ⟨m, nn, dd, a1, c1, a2, c2⟩ w hm.below (aX.of (df hm) (df hm) hc1) rfl) ?_ | ((with_reducible show ∃ _ : SV, _); first | (refine ⟨.fn 65 [], ?ok, bH (j := 2) underlying86 (fun w => sizeOf85 w) (fun w => isAgg85 w) (by omega) rfl, ?_⟩; (case ok => exact fun _ _ => trivial))) | intro _)
     all_goals first | (exfalso; omega) | rfl
   | false =>
     repeat' (first | exact ⟨⟩ | refine yG ?_ ?_ | (refine gG .i64 10 ⟨m, nn, dd⟩ false hw0 (by kernel_rfl) rfl (fun β w' hm => hC w' hm.below) (fun a1 c1 a2 c2 hc1 => ?_)) | ((with_reducible show ∃ _ : SV, _); first | (refine ⟨.fn 65 [], ?ok, bH (j := 2) underlying86 (fun w => sizeOf85 w) (fun w => isAgg85 w) (by omega) rfl, ?_⟩; (case ok => exact fun _ _ => trivial))) | intro _)
     all_goals first | (exfalso; omega) | (refine hI _ ⟨3, by omega, fun _ => z0 (by omega), fun _ => z1 (by omega), fun _ => rfl, fun h => by omega, fun h => by omega⟩ (by dsimp only; omega) yW; done)
  ·obtain ⟨m, nn, dd⟩ := ND
   cases oD with
   | true =>
     replace nD := nD (z0 (by omega)) (z1 (by omega)) (z2 (by omega)) rfl
     repeat' (first | exact ⟨⟩ | refine yG ?_ ?_ | (refine gG .i64 10 ⟨m, nn, dd⟩ true hw0 (by kernel_rfl) rfl (fun β w' hm => hD w' hm.below) (fun a1 c1 a2 c2 hc1 => ?_)) | refine yK (.agg [.int .i64 vk, .str v1, .str v2, .str vt, .bool vo, .int .i64 vc, .int .i64 vr, .int .i64 vl, .any (.slice none 0 0)]) (fun β w hm => nD ⟨m, nn, dd, a1, c1, a2, c2⟩ w hm.below (aX.of (df hm) (df hm) hc1) rfl) ?_ | ((with_reducible show ∃ _ : SV, _); first | (refine ⟨.fn 66 [], ?ok, bH (j := 3) underlying86 (fun w => sizeOf85 w) (fun w => isAgg85 w) (by omega) rfl, ?_⟩; (case ok => exact fun _ _ => trivial))) | intro _)
     all_goals first | (exfalso; omega) | rfl
   | false =>
     repeat' (first | exact ⟨⟩ | refine yG ?_ ?_ | (refine gG .i64 10 ⟨m, nn, dd⟩ false hw0 (by kernel_rfl) rfl (fun β w' hm => hD w' hm.below) (fun a1 c1 a2 c2 hc1 => ?_)) | ((with_reducible show ∃ _ : SV, _); first | (refine ⟨.fn 66 [], ?ok, bH (j := 3) underlying86 (fun w => sizeOf85 w) (fun w => isAgg85 w) (by omega) rfl, ?_⟩; (case ok => exact fun _ _ => trivial))) | intro _)
     all_goals first | (exfalso; omega) | (refine hI _ ⟨4, by omega, fun _ => z0 (by omega), fun _ => z1 (by omega), fun _ => z2 (by omega), fun _ => rfl, fun h => by omega⟩ (by dsimp only; omega) yW; done)
  ·obtain ⟨m, nn, dd⟩ := NE
   cases oE with
   | true =>
     replace nE := nE (z0 (by omega)) (z1 (by omega)) (z2 (by omega)) (z3 (by omega)) rfl
     repeat' (first | exact ⟨⟩ | refine yG ?_ ?_ | (refine gG .i64 10 ⟨m, nn, dd⟩ true hw0 (by kernel_rfl) rfl (fun β w' hm => hE w' hm.below) (fun a1 c1 a2 c2 hc1 => ?_)) | refine yK (.agg [.int .i64 vk, .str v1, .str v2, .str vt, .bool vo, .int .i64 vc, .int .i64 vr, .int .i64 vl, .any (.slice none 0 0)]) (fun β w hm => nE ⟨m, nn, dd, a1, c1, a2, c2⟩ w hm.below (aX.of (df hm) (df hm) hc1) rfl) ?_ | ((with_reducible show ∃ _ : SV, _); first | (refine ⟨.fn 67 [], ?ok, bH (j := 4) underlying86 (fun w => sizeOf85 w) (fun w => isAgg85 w) (by omega) rfl, ?_⟩; (case ok => exact fun _ _ => trivial))) | intro _)
     all_goals first | (exfalso; omega) | rfl
   | false =>
     repeat' (first | exact ⟨⟩ | refine yG ?_ ?_ | (refine gG .i64 10 ⟨m, nn, dd⟩ false hw0 (by kernel_rfl) rfl (fun β w' hm => hE w' hm.below) (fun a1 c1 a2 c2 hc1 => ?_)) | ((with_reducible show ∃ _ : SV, _); first | (refine ⟨.fn 67 [], ?ok, bH (j := 4) underlying86 (fun w => sizeOf85 w) (fun w => isAgg85 w) (by omega) rfl, ?_⟩; (case ok => exact fun _ _ => trivial))) | intro _)
     all_goals first | (exfalso; omega) | (refine hI _ ⟨5, by omega, fun _ => z0 (by omega), fun _ => z1 (by omega), fun _ => z2 (by omega), fun _ => z3 (by omega), fun _ => rfl⟩ (by dsimp only; omega) yW; done)
  ·replace nZ := nZ (z0 (by omega)) (z1 (by omega)) (z2 (by omega)) (z3 (by omega)) (z4 (by omega))
   repeat' (first | exact ⟨⟩ | refine yG ?_ ?_ | refine yA (.agg [.int .i64 vk, .str v1, .str v2, .str vt, .bool vo, .int .i64 vc, .int .i64 vr, .int .i64 vl, .any (.slice none 0 0)]) (fun _ => nZ) ?_ | intro _)
   all_goals first | (exfalso; omega) | rfl
end
end
end Go.Proofs.YtdkhkfdenlabaaaGreatDoor
