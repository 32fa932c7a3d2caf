/- The program's numbers: Yb and com -/
import Derived.Test.YtdkhkfdenlabaaaGreatDoorVGG
import Derived.Test.YtdkhkfdenlabaaaGreatDoorVGJ
import Derived.Test.YtdkhkfdenlabaaaGreatDoorVGD
set_option linter.unusedSimpArgs false
set_option linter.unusedVariables false
set_option maxRecDepth 100000
set_option maxHeartbeats 64000000
namespace Go.Proofs.YtdkhkfdenlabaaaGreatDoor
open Go.Proofs.Tryz
section
open Go.RowKit
open Sym
attribute [local irreducible] Calls Sym.bM ae.nd ae.bu ae.upd
theorem NJ (k : IntKind) (b : Nat) : nv k b 0 = [] := by
 have := jT k b 0
 rw [ae.aT] at this
 exact List.length_eq_zero_iff.1 this
structure Zl where
 j : Nat
 V : Nat
 r : Nat
 ra : Option Addr
 rc : Nat
structure DvI (x y n : Nat) (t : Zl) : Prop where
 hj : t.j <= n
 d : ae.G5 1000000000 x y t.j t.V t.r
 hn : t.ra = none -> t.rc = 0
 hc : ae.nd 1000000000 t.r <= t.rc
theorem jB (a b : Option Addr) (ca cb x y : Nat) (w : World) (hw0 : 0 < w.heap.size) (hx : ae.nd 1000000000 x <= 10000000) (hy : ae.nd 1000000000 y <= 10000000) (hy0 : 0 < y) (hs : aS a (nv .u32 1000000000 x) w) (ht : aS b (nv .u32 1000000000 y) w) :
  Calls Tryz.prog 203 #[.slice a (ae.nd 1000000000 x) ca, .slice b (ae.nd 1000000000 y) cb] w (ET .u32 1000000000 (x / y) (x % y) w) := by
 obtain ⟨i0, hi, hz0, hz1, hz2⟩ := info_parts kU
 have hu := underlying137
 have hsz := fun w => sizeOf161 w
 have hzv := fun w => zeroValue161 w
 have hgx := fun i (h : i < ae.nd 1000000000 x) => eQ (k := .u32) h
 have hnx := iJ (k := .u32) (b := 1000000000) (x := x)
 have tV := fun i => ae.dG (b := 1000000000) (by omega) i x
 have hxl := ae.dP (b := 1000000000) (by omega) x
 have hTR := fun g (V : Nat) (w' : World) (hV : V < 1000000000 ^ (ae.nd 1000000000 x)) hs' => lu (some ⟨g, 0, none⟩) (ae.nd 1000000000 x) (ae.nd 1000000000 x) V w' hV (Nat.le_refl _) (by omega) hs'
 have hyb := hy
 have hDG := fun (g c R : Nat) (w' : World) (h0 : 0 < w'.heap.size) (hR : ae.nd 1000000000 R <= 20000000) (hRy : R < y * 1000000000) hb h => Oq (some ⟨g, 0, none⟩) b c cb R y w' h0 hR (by omega) hy0 hRy h (aS.below ht hb)
 have YC := fun (g m : Nat) (hm : m < 1000000000) (w' : World) hb (h : aS (some ⟨g, 0, none⟩) (nv .u32 1000000000 m) w') => times_any b (some ⟨g, 0, none⟩) cb 1 y m w' (by omega) (by have := ae.A7 (b := 1000000000) (by omega) hm; omega) (aS.below ht hb) h
 refine yE func203 rfl results203 ntmps203 [] [] [.any (.slice a (ae.nd 1000000000 x) ca), .any (.slice b (ae.nd 1000000000 y) cb)] w ?_
 generalize ae.nd 1000000000 x = n at *
 generalize ZT : ae.nd 1000000000 y = m at *
 repeat' (first | exact ⟨⟩ | refine yG ?_ ?_ | (refine pM (m := n) rfl (by omega) rfl rfl hu hi hz0 hz1 rfl (by rw [hz2]; omega) (by unfold maxLen; omega) (fun g => ?_)) | refine yO (aJ underlying137) ?_ | intro _)
 rw [ug 1000000000]
 refine zF hw0 ?_
 refine loop bF rfl (T := {t : Zl // DvI x y n t}) (fun t => ⟨[(0, .any (.slice a n ca)), (1, .any (.slice b m cb)), (6, .any (.slice (some ⟨g, 0, none⟩) n n)), (7, .any (.slice t.1.ra (ae.nd 1000000000 t.1.r) t.1.rc)), (8, .int .i64 ((t.1.j : Nat) - 1 : Int))], [(0, true, .aK (dN 161 1 g n n (dC .u32 (ae.lI 1000000000 n t.1.V)))), (1, false, .aK (bV w.heap.size t.1.ra (nv .u32 1000000000 t.1.r)))], 2, 46⟩) (fun t => t.1.j) ⟨⟨n, 0, 0, none, 0⟩, ⟨Nat.le_refl _, ae.xI hxl, fun _ => rfl, by rw [ae.aT]; exact Nat.le_refl _⟩⟩ 1000 [] [] (fun _ => by exact Nat.zero_le _) (by dsimp only; rw [NJ, ae.aT]; ((with_reducible show wk _ _); repeat' (first | exact trivial | exact au _ | refine eY ?_ | refine eqS ?_ | apply And.intro | exact yV | fail)); all_goals exact fun b x h => h) (fun t I hI => ?_)
 obtain ⟨⟨j, V, r, ra, rc⟩, hj, hD, hn, hc⟩ := t
 dsimp only at hj hD hn hc ⊢
 by_cases hj0 : j = 0
 ·subst hj0
  obtain ⟨rfl, rfl⟩ := ae.Fh hD
  have hl := ae.div_lt (by omega) hD hxl
  repeat' (first | exact ⟨⟩ | refine yG ?_ ?_ | refine yK (.any (.slice (some ⟨g, 0, none⟩) (ae.nd 1000000000 (x / y)) n)) (fun β w hm => hTR g (x / y) w hl (Mem.own hm 0 rfl).1) ?_ | intro _)
  refine ret fun β w' hm => ?_
  obtain ⟨q1, q2, q3⟩ := Mem.own hm 0 rfl
  have hle := ae.dX (b := 1000000000) (by omega) hl
  exact ⟨_, n, ra, rc, rfl, ⟨kK q1 (ja hle .u32), bY q2 rfl, (fun h => by cases h), hle⟩, ⟨Mem.dS hm 1 rfl, Mem.di hm 1 rfl rfl, hn, hc⟩, hm.below⟩
 ·obtain ⟨i, rfl⟩ : ∃ i, j = i + 1 := ⟨j - 1, by omega⟩
  obtain ⟨ad, rfl⟩ := aS.some hs (hnx (by omega))
  have r1 := dW hs (hgx i (by omega))
  have tV := tV i
  have hry : r < y := by rw [hD.r]; exact Nat.mod_lt _ hy0
  obtain ⟨hD1, hq⟩ := ae.Bd (by omega) hy0 hD rfl
  have hrn := ae.dD (b := 1000000000) (by omega) (Nat.le_of_lt hry)
  rw [ZT] at hrn
  have hRl := ae.MV tV (ae.dP (b := 1000000000) (by omega) r)
  have hcons := ae.MR (b := 1000000000) (r := r) (by omega) tV (ae.nd 1000000000 r)
  have hset := ae.qp (b := 1000000000) (n := n) (V := V) (j := i) (by omega) hq
  have hRy : ae.bu 1000000000 i x + r * 1000000000 < y * 1000000000 := by omega
  have hnl := jT .u32 1000000000 r
  have hrow : ([.int .u32 ((ae.bu 1000000000 i x : Nat) : Int)] : List Value) ++ nv .u32 1000000000 r = dC .u32 (ae.lI 1000000000 (1 + ae.nd 1000000000 r) (ae.bu 1000000000 i x + r * 1000000000)) := by rw [Nat.add_comm 1, hcons]; rfl
  generalize ae.bu 1000000000 i x = dx at *
  generalize hR : dx + r * 1000000000 = R at *
  have hRn := ae.dX (b := 1000000000) (by omega) hRl
  have hmod : R % y = R - y * (R / y) := by have := Nat.div_add_mod R y; omega
  have hle : y * (R / y) <= R := Nat.mul_div_le R y
  have hMN := fun (g c : Nat) (a2 : Option Addr) (c2 : Nat) (w' : World) h1 h2 => pJ (some ⟨g, 0, none⟩) a2 c c2 R (y * (R / y)) w' (by omega) (by have := ae.dD (b := 1000000000) (by omega) hle; omega) hle (fun h => by cases h) h1 h2
  rw [hmod] at hD1
  have hDG := fun g c w' h0 => hDG g c R w' h0 (by omega) hRy
  have hT2 := fun g (c : Nat) hc (w' : World) hs' => lu (some ⟨g, 0, none⟩) (1 + ae.nd 1000000000 r) c R w' (by rw [Nat.add_comm]; exact hRl) hc (by omega) hs'
  have hpre := ja (b := 1000000000) (x := R) (by omega : ae.nd 1000000000 R <= 1 + ae.nd 1000000000 r) .u32
  generalize R / y = q at *
  have YC := YC
  have hT1 := fun g (w' : World) hs' => lu (some ⟨g, 0, none⟩) 1 1 q w' (by simpa using hq) (Nat.le_refl _) (by omega) hs'
  rw [one_row hq] at hT1
  have YV : ∀ (i : Nat) (v : Value), (nv .u32 1000000000 q)[i]? = some v -> ([.int .u32 (q : Nat)] : List Value)[i]? = some v := by rw [<- one_row hq]; exact ja (ae.A7 (by omega) hq) .u32
  repeat' (first | exact ⟨⟩ | refine yG ?_ ?_ | refine yK (.any (.slice (some ⟨g2, 0, none⟩) (ae.nd 1000000000 R) cap2)) (fun β w hm => hT2 g2 cap2 (Mem.own hm 2 rfl).2.2 w (by have := (Mem.own hm 2 rfl).1; rw [hrow] at this; exact this)) ?_ | refine yK (.int .u32 (q : Nat)) (fun β w hm => hDG g2 cap2 w (zl hw0 hm.aU) hm.below (kK (by have := (Mem.own hm 2 rfl).1; rw [hrow] at this; exact this) hpre)) ?_ | refine yK (.any (.slice (some ⟨g3, 0, none⟩) (ae.nd 1000000000 q) 1)) (fun β w hm => hT1 g3 w (Mem.own hm 3 rfl).1) ?_ | (refine aH .u32 1000000000 (y * q) hw0 (by kernel_rfl) rfl (fun β w' hm => YC g3 q hq w' hm.below (kK (Mem.own hm 3 rfl).1 YV)) (fun ta tca hn1 hc1 hs1 => ?_)) | (refine aH .u32 1000000000 (R - y * q) hw0 (by kernel_rfl) rfl (fun β w' hm => hMN g2 cap2 ta tca w' (kK (by have := (Mem.own hm 2 rfl).1; rw [hrow] at this; exact this) hpre) (Mem.dS hm 4 rfl)) (fun ua uca hn2 hc2 hs2 => ?_)) | (refine aI (sz := 1) rfl rfl rfl (xs := [.int .u32 (dx : Nat)]) (fun β => rfl) rfl (by omega) (by omega) hu hsz hzv (fun g1 => ?_)) | (refine rY (sz := 1) 2 (ys := nv .u32 1000000000 r) rfl hu hi hz0 hz1 rfl (by omega) rfl rfl rfl hn (by rw [Nat.mul_one]; exact hnl) (fun β w' hm => Mem.dS hm 1 rfl) (by unfold maxLen; omega) (by rw [hz2]; omega) (yM _ _) (by kernel_rfl) (Nat.zero_le _) (fun g2 cap2 => ?_)) | (refine fH bF 0 (u := .int .u32 (q : Nat)) rfl rfl rfl rfl (fun β => rfl) rfl rfl (by omega) ?_) | (refine aI (sz := 1) rfl rfl rfl (xs := [.int .u32 (q : Nat)]) (fun β => rfl) rfl (by omega) (by omega) hu hsz hzv (fun g3 => ?_)) | refine yO (aJ underlying137) ?_ | refine yN (j := i) underlying137 sizeOf161 ?_ | refine yO (v := .int .u32 (dx : Nat)) (dh (fun w => isAgg161 w) (fun w' hb β => by rw [Nat.mul_one]; exact r1 w' hb)) ?_ | refine yO (v := .int .u32 (q : Nat)) (kW 0 (.int .u32 (q : Nat)) (fun w => isAgg161 w) rfl (fun β => by rw [Nat.mul_one, List.getElem?_set_self (by rw [kN, ae.nY]; omega)]; rfl)) ?_ | intro _)
  refine ai 1 5 rfl rfl rfl (Nat.zero_le _) (by kernel_rfl) ?_
  refine hI _ ⟨⟨i, ae.upd 1000000000 V i q, R - y * q, ua, uca⟩, ⟨by dsimp only; omega, hD1, hn2, hc2⟩⟩ (by dsimp only; omega) (by dsimp only; ((with_reducible show wk _ _); repeat' (first | exact trivial | exact au _ | refine eY ?_ | refine eqS ?_ | apply And.intro | exact yV | fail)); all_goals first | exact fun b x h => h | (rw [Nat.mul_one, ji, hset]; exact fun b x h => h))
def X6 (base : Nat) (L : List (Option Addr)) (a : Option Addr) (xs : List Value) (b : Nat) (o : Option Obj) : Prop := G7 a xs b o /\ ((xs ≠ [] -> base <= b) \/ a ∈ L)
structure Ws where
 u : Nat
 v : Nat
 a : Option Addr
 c : Nat
 b : Option Addr
 d : Nat
structure CmI (x y : Nat) (t : Ws) : Prop where
 g : Nat.gcd t.u t.v = Nat.gcd x y
 hu : ae.nd 1000000000 t.u <= 10000000
 hv : ae.nd 1000000000 t.v <= 10000000
 ha : t.a = none -> t.c = 0
 hc : ae.nd 1000000000 t.u <= t.c
 hb : t.b = none -> t.d = 0
 hd : ae.nd 1000000000 t.v <= t.d
theorem uN (L : List (Option Addr)) (a b : Option Addr) (ca cb x y : Nat) (w : World) (hw0 : 0 < w.heap.size) (hx : ae.nd 1000000000 x <= 10000000) (hy : ae.nd 1000000000 y <= 10000000) (ha : a = none -> ca = 0) (hca : ae.nd 1000000000 x <= ca) (hb : b = none -> cb = 0) (hcb : ae.nd 1000000000 y <= cb) (hLa : 0 < x -> a ∈ L) (hLb : 0 < y -> b ∈ L) (hs : aS a (nv .u32 1000000000 x) w) (ht : aS b (nv .u32 1000000000 y) w) :
  Calls Tryz.prog 186 #[.slice a (ae.nd 1000000000 x) ca, .slice b (ae.nd 1000000000 y) cb] w (Kq L .u32 1000000000 (Nat.gcd x y) w) := by
 refine yE func186 rfl results186 ntmps186 [] [] [.any (.slice a (ae.nd 1000000000 x) ca), .any (.slice b (ae.nd 1000000000 y) cb)] w ?_
 repeat' (first | exact ⟨⟩ | refine yG ?_ ?_ | intro _)
 refine ou a (nv .u32 1000000000 x) hw0 rfl hs ?_
 refine ou b (nv .u32 1000000000 y) hw0 rfl ht ?_
 refine loop bF rfl (T := {t : Ws // CmI x y t}) (fun t => ⟨[(0, .any (.slice t.1.a (ae.nd 1000000000 t.1.u) t.1.c)), (1, .any (.slice t.1.b (ae.nd 1000000000 t.1.v) t.1.d))], [(0, false, .aK (X6 w.heap.size L t.1.a (nv .u32 1000000000 t.1.u))), (1, false, .aK (X6 w.heap.size L t.1.b (nv .u32 1000000000 t.1.v)))], 2, 19⟩) (fun t => t.1.v) ⟨⟨x, y, a, ca, b, cb⟩, ⟨rfl, hx, hy, ha, hca, hb, hcb⟩⟩ 1000 [] [] (fun _ => by exact Nat.zero_le _) (by dsimp only; ((with_reducible show wk _ _); repeat' (first | exact trivial | exact au _ | refine eY ?_ | refine eqS ?_ | apply And.intro | exact yV | fail)); all_goals first | exact fun b x h => ⟨h, (by first | exact Gs hLa | exact Gs hLb)⟩) (fun t I hI => ?_)
 obtain ⟨⟨u, v, a1, c1, b1, d1⟩, hG, hu, hv, ha1, hc1, hb1, hd1⟩ := t
 dsimp only at hG hu hv ha1 hc1 hb1 hd1 ⊢
 have hZ := fun w => lH b1 (ae.nd 1000000000 v) d1 w
 by_cases hv0 : v = 0
 ·have hz : decide ((ae.nd 1000000000 v : Int) = 0) = true := by subst hv0; rw [ae.aT]; rfl
  rw [hz] at hZ
  repeat' (first | exact ⟨⟩ | refine yG ?_ ?_ | refine yA (.lit true) (fun _ => hZ) ?_ | intro _)
  refine ret fun β w' hm => ?_
  subst hv0
  rw [Nat.gcd_zero_right] at hG
  subst hG
  obtain ⟨q1, -, -, -⟩ := hm.row 0 _ _ rfl
  refine ⟨a1, c1, rfl, q1.2.1.at q1.1, q1.2.2.imp (fun h => ?_) id, ha1, hc1, hm.below⟩
  exact bV.fresh (w := w') ⟨q1.2.1, h⟩ rfl
 ·have hz : decide ((ae.nd 1000000000 v : Int) = 0) = false := by
   have := (ae.fM (b := 1000000000) (by omega)).2 (Nat.pos_of_ne_zero hv0)
   exact decide_eq_false (by omega)
  rw [hz] at hZ
  have hDV := fun (w' : World) h0 h1 h2 => jB a1 b1 c1 d1 u v w' h0 hu hv (Nat.pos_of_ne_zero hv0) h1 h2
  have hml := Nat.mod_lt u (Nat.pos_of_ne_zero hv0)
  have hmn := ae.dD (b := 1000000000) (by omega) (Nat.le_of_lt hml)
  have hg2 : Nat.gcd v (u % v) = Nat.gcd x y := by rw [<- hG, Nat.gcd_comm u v, Nat.gcd_rec v u, Nat.gcd_comm]
  generalize u % v = r at *
  generalize u / v = q at *
  repeat' (first | exact ⟨⟩ | refine yG ?_ ?_ | refine yA (.lit false) (fun _ => hZ) ?_ | (refine fU .u32 1000000000 q r hw0 (by kernel_rfl) rfl (fun β w' hm => hDV w' (zl hw0 hm.aU) ((hm.row 0 _ _ rfl).1.2.1.at (hm.row 0 _ _ rfl).1.1) ((hm.row 1 _ _ rfl).1.2.1.at (hm.row 1 _ _ rfl).1.1)) (fun qa qc ra rc h1 h2 h3 h4 h5 h6 => ?_)) | intro _)
  refine ai 0 1 rfl rfl rfl (Nat.zero_le _) (by kernel_rfl) ?_
  refine ai 1 3 rfl rfl rfl (Nat.zero_le _) (by kernel_rfl) ?_
  refine hI _ ⟨⟨v, r, b1, d1, ra, rc⟩, ⟨hg2, hv, by dsimp only; omega, hb1, hd1, h4, h5⟩⟩ (by dsimp only; omega) (by dsimp only; ((with_reducible show wk _ _); repeat' (first | exact trivial | exact au _ | refine eY ?_ | refine eqS ?_ | apply And.intro | exact yV | fail)); all_goals first | exact fun b x h => h | exact fun b x h => ⟨h.1, .inl h.2⟩)
theorem sum_any (x y : bI) (w : World) (hw0 : 0 < w.heap.size) (hx : aX .u32 1000000000 x w) (hy : aX .u32 1000000000 y w)
  (ng : ae.nd 1000000000 x.n <= 1000000) (hxd : ae.nd 1000000000 x.d <= 1000000) (hyn : ae.nd 1000000000 y.n <= 1000000) (RF : ae.nd 1000000000 y.d <= 1000000) :
  Calls Tryz.prog 175 #[x.val 1000000000, y.val 1000000000] w (fF .u32 1000000000 (ae.fP x.num y.num) w) := by
 obtain ⟨xm, xn, xd, xa, xc, xb, xe⟩ := x
 obtain ⟨ym, yn, yd, ya, yc, yb, ye⟩ := y
 obtain ⟨hx1, hx2, ⟨hx3, hx4, hx5, hx6⟩⟩ := hx
 obtain ⟨hy1, hy2, ⟨hy3, hy4, Y1, Y2⟩⟩ := hy
 dsimp only [bI.num, bI.val] at *
 have T1 := fun (w' : World) (h : BW w w') => times_any xa yb xc ye xn yd w' (by omega) (by omega) (hx1.below h) (hy2.below h)
 have T2 := fun (w' : World) (h : BW w w') => times_any ya xb yc xe yn xd w' (by omega) (by omega) (hy1.below h) (hx2.below h)
 have T3 := fun (w' : World) (h : BW w w') => times_any xb yb xe ye xd yd w' (by omega) (by omega) (hx2.below h) (hy2.below h)
 have m1 := ae.iV (b := 1000000000) (x := xn) (y := yd) (by omega)
 have m2 := ae.iV (b := 1000000000) (x := yn) (y := xd) (by omega)
 by_cases hm : xm = ym
 ·have hS : ae.fP ⟨xm, xn, xd⟩ ⟨ym, yn, yd⟩ = ⟨xm, xn * yd + yn * xd, xd * yd⟩ := by simp [ae.fP, hm]
  rw [hS]
  obtain rfl : xm = ym := hm
  refine yE func175 rfl results175 ntmps175 [] [200001, 200004, 200006, 200007] [.agg [.bool xm, .any (.slice xa (ae.nd 1000000000 xn) xc), .any (.slice xb (ae.nd 1000000000 xd) xe)], .agg [.bool xm, .any (.slice ya (ae.nd 1000000000 yn) yc), .any (.slice yb (ae.nd 1000000000 yd) ye)]] w ?_
  repeat' (first | exact ⟨⟩ | refine yG ?_ ?_ | (refine aH .u32 1000000000 (xn * yd) hw0 (by kernel_rfl) rfl (fun β w' hm => T1 w' hm.below) (fun a1 c1 h1 h2 h3 => ?_)) | (refine aH .u32 1000000000 (yn * xd) hw0 (by kernel_rfl) rfl (fun β w' hm => T2 w' hm.below) (fun a2 c2 h4 h5 h6 => ?_)) | (refine aH .u32 1000000000 (xd * yd) hw0 (by kernel_rfl) rfl (fun β w' hm => T3 w' hm.below) (fun a3 c3 h7 h8 h9 => ?_)) | (refine aH .u32 1000000000 (xn * yd + yn * xd) hw0 (by kernel_rfl) rfl (fun β w' hm => rZ a1 a2 c1 c2 _ _ w' (by omega) (by omega) (hm.dS 3 rfl) (hm.dS 4 rfl)) (fun a4 c4 h10 h11 h12 => ?_)) | (refine aH .u32 1000000000 (xn * yd + yn * xd) hw0 (by kernel_rfl) rfl (fun β w' hm => rZ a1 a2 c1 c2 _ _ w' (by omega) (by omega) (hm.dS 4 rfl) (hm.dS 3 rfl)) (fun a4 c4 h10 h11 h12 => ?_)) | refine yO (qO xm xm true (fun _ => rfl) (fun _ => rfl) (by simp) underlying4) ?_ | intro _)
  all_goals first | (exfalso; simp_all; done) | skip
  all_goals refine ret fun β w' hm => ?_
  all_goals exact ⟨⟨_, _, _, a4, c4, a3, c3⟩, rfl, rfl, ⟨h10, h7, h11, h8⟩, oK (hm.dS 6 rfl) (hm.di 6 rfl rfl) (hm.dS 5 rfl) (hm.di 5 rfl rfl), hm.below⟩
 ·by_cases hle : yn * xd <= xn * yd
  ·have hS : ae.fP ⟨xm, xn, xd⟩ ⟨ym, yn, yd⟩ = ⟨xm, xn * yd - yn * xd, xd * yd⟩ := by simp [ae.fP, hm, hle]
   rw [hS]
   have hc := (ae.Ae 1000000000 (x := xn * yd) (y := yn * xd) (by omega)).1.2 hle
   refine yE func175 rfl results175 ntmps175 [] [200001, 200004, 200006, 200007] [.agg [.bool xm, .any (.slice xa (ae.nd 1000000000 xn) xc), .any (.slice xb (ae.nd 1000000000 xd) xe)], .agg [.bool ym, .any (.slice ya (ae.nd 1000000000 yn) yc), .any (.slice yb (ae.nd 1000000000 yd) ye)]] w ?_
   repeat' (first | exact ⟨⟩ | refine yG ?_ ?_ | (refine aH .u32 1000000000 (xn * yd) hw0 (by kernel_rfl) rfl (fun β w' hm => T1 w' hm.below) (fun a1 c1 h1 h2 h3 => ?_)) | (refine aH .u32 1000000000 (yn * xd) hw0 (by kernel_rfl) rfl (fun β w' hm => T2 w' hm.below) (fun a2 c2 h4 h5 h6 => ?_)) | (refine aH .u32 1000000000 (xd * yd) hw0 (by kernel_rfl) rfl (fun β w' hm => T3 w' hm.below) (fun a3 c3 h7 h8 h9 => ?_)) | refine yK (.int .i64 (ae.oM 1000000000 (xn * yd) (yn * xd))) (fun β w' hm => jG a1 a2 c1 c2 _ _ w' (by omega) (by omega) (hm.dS 3 rfl) (hm.dS 4 rfl)) ?_ | refine yK (.int .i64 (ae.oM 1000000000 (xn * yd) (yn * xd))) (fun β w' hm => jG a1 a2 c1 c2 _ _ w' (by omega) (by omega) (hm.dS 4 rfl) (hm.dS 3 rfl)) ?_ | (refine aH .u32 1000000000 (xn * yd - yn * xd) hw0 (by kernel_rfl) rfl (fun β w' hm => pJ a1 a2 c1 c2 _ _ w' (by omega) (by omega) hle h1 (hm.dS 3 rfl) (hm.dS 4 rfl)) (fun a4 c4 h10 h11 h12 => ?_)) | (refine aH .u32 1000000000 (xn * yd - yn * xd) hw0 (by kernel_rfl) rfl (fun β w' hm => pJ a1 a2 c1 c2 _ _ w' (by omega) (by omega) hle h1 (hm.dS 4 rfl) (hm.dS 3 rfl)) (fun a4 c4 h10 h11 h12 => ?_)) | refine yO (qO xm ym false (fun _ => rfl) (fun _ => rfl) (by simpa using hm) underlying4) ?_ | intro _)
   all_goals first | (exfalso; simp_all; done) | skip
   all_goals refine ret fun β w' hm => ?_
   all_goals exact ⟨⟨_, _, _, a4, c4, a3, c3⟩, rfl, rfl, ⟨h10, h7, h11, h8⟩, oK (hm.dS 6 rfl) (hm.di 6 rfl rfl) (hm.dS 5 rfl) (hm.di 5 rfl rfl), hm.below⟩
  ·have hS : ae.fP ⟨xm, xn, xd⟩ ⟨ym, yn, yd⟩ = ⟨ym, yn * xd - xn * yd, xd * yd⟩ := by simp [ae.fP, hm, hle]
   rw [hS]
   have hc := fun h => hle ((ae.Ae 1000000000 (x := xn * yd) (y := yn * xd) (by omega)).1.1 h)
   refine yE func175 rfl results175 ntmps175 [] [200001, 200004, 200006, 200007] [.agg [.bool xm, .any (.slice xa (ae.nd 1000000000 xn) xc), .any (.slice xb (ae.nd 1000000000 xd) xe)], .agg [.bool ym, .any (.slice ya (ae.nd 1000000000 yn) yc), .any (.slice yb (ae.nd 1000000000 yd) ye)]] w ?_
   repeat' (first | exact ⟨⟩ | refine yG ?_ ?_ | (refine aH .u32 1000000000 (xn * yd) hw0 (by kernel_rfl) rfl (fun β w' hm => T1 w' hm.below) (fun a1 c1 h1 h2 h3 => ?_)) | (refine aH .u32 1000000000 (yn * xd) hw0 (by kernel_rfl) rfl (fun β w' hm => T2 w' hm.below) (fun a2 c2 h4 h5 h6 => ?_)) | (refine aH .u32 1000000000 (xd * yd) hw0 (by kernel_rfl) rfl (fun β w' hm => T3 w' hm.below) (fun a3 c3 h7 h8 h9 => ?_)) | refine yK (.int .i64 (ae.oM 1000000000 (xn * yd) (yn * xd))) (fun β w' hm => jG a1 a2 c1 c2 _ _ w' (by omega) (by omega) (hm.dS 3 rfl) (hm.dS 4 rfl)) ?_ | refine yK (.int .i64 (ae.oM 1000000000 (xn * yd) (yn * xd))) (fun β w' hm => jG a1 a2 c1 c2 _ _ w' (by omega) (by omega) (hm.dS 4 rfl) (hm.dS 3 rfl)) ?_ | (refine aH .u32 1000000000 (yn * xd - xn * yd) hw0 (by kernel_rfl) rfl (fun β w' hm => pJ a2 a1 c2 c1 _ _ w' (by omega) (by omega) (by omega) h4 (hm.dS 4 rfl) (hm.dS 3 rfl)) (fun a4 c4 h10 h11 h12 => ?_)) | (refine aH .u32 1000000000 (yn * xd - xn * yd) hw0 (by kernel_rfl) rfl (fun β w' hm => pJ a2 a1 c2 c1 _ _ w' (by omega) (by omega) (by omega) h4 (hm.dS 3 rfl) (hm.dS 4 rfl)) (fun a4 c4 h10 h11 h12 => ?_)) | refine yO (qO xm ym false (fun _ => rfl) (fun _ => rfl) (by simpa using hm) underlying4) ?_ | intro _)
   all_goals first | (exfalso; simp_all; done) | skip
   all_goals refine ret fun β w' hm => ?_
   all_goals exact ⟨⟨_, _, _, a4, c4, a3, c3⟩, rfl, rfl, ⟨h10, h7, h11, h8⟩, oK (hm.dS 6 rfl) (hm.di 6 rfl rfl) (hm.dS 5 rfl) (hm.di 5 rfl rfl), hm.below⟩
theorem Qm (x y : bI) (w : World) (hw0 : 0 < w.heap.size) (hx : aX .u32 1000000000 x w) (hy : aX .u32 1000000000 y w)
  (ng : ae.nd 1000000000 x.n <= 1000000) (hxd : ae.nd 1000000000 x.d <= 1000000) (hyn : ae.nd 1000000000 y.n <= 1000000) (RF : ae.nd 1000000000 y.d <= 1000000) :
  Calls Tryz.prog 174 #[x.val 1000000000, y.val 1000000000] w (iC .u32 1000000000 (ae.fP x.num y.num) 0 w) := by
 have S1 := fun (w' : World) (h : BW w w') => sum_any x y w' (zl hw0 h.size) (hx.below h) (hy.below h) ng hxd hyn RF
 have S2 := fun (w' : World) (h : BW w w') => sum_any x ⟨!y.m, y.n, y.d, y.a, y.c, y.b, y.e⟩ w' (zl hw0 h.size) (hx.below h) ⟨hy.sn.below h, hy.sd.below h, ⟨hy.cap.an, hy.cap.bn, hy.cap.cn, hy.cap.cd⟩⟩ ng hxd hyn RF
 obtain ⟨xm, xn, xd, xa, xc, xb, xe⟩ := x
 obtain ⟨ym, yn, yd, ya, yc, yb, ye⟩ := y
 obtain ⟨hx1, hx2, ⟨hx3, hx4, hx5, hx6⟩⟩ := hx
 obtain ⟨hy1, hy2, ⟨hy3, hy4, Y1, Y2⟩⟩ := hy
 dsimp only [bI.num, bI.val] at *
 refine yE func174 rfl results174 ntmps174 [] [] [.agg [.bool xm, .any (.slice xa (ae.nd 1000000000 xn) xc), .any (.slice xb (ae.nd 1000000000 xd) xe)], .agg [.bool ym, .any (.slice ya (ae.nd 1000000000 yn) yc), .any (.slice yb (ae.nd 1000000000 yd) ye)]] w ?_
 repeat' (first | exact ⟨⟩ | refine yG ?_ ?_ | (refine dF .u32 1000000000 (ae.fP ⟨xm, xn, xd⟩ ⟨ym, yn, yd⟩) hw0 (by kernel_rfl) rfl (fun β w' hm => S1 w' hm.below) (fun a1 c1 a2 c2 hcap => ?_)) | intro _)
 all_goals refine ret fun β w' hm => ?_
 all_goals exact ⟨⟨_, _, _, _, _, _, _⟩, rfl, rfl, hcap, oK (hm.dS 3 rfl) (hm.di 3 rfl rfl) (hm.dS 4 rfl) (hm.di 4 rfl rfl), hm.below⟩
theorem QW (x y : bI) (w : World) (hw0 : 0 < w.heap.size) (hx : aX .u32 1000000000 x w) (hy : aX .u32 1000000000 y w) (h0 : y.n ≠ 0)
  (ng : ae.nd 1000000000 x.n <= 1000000) (hxd : ae.nd 1000000000 x.d <= 1000000) (hyn : ae.nd 1000000000 y.n <= 1000000) (RF : ae.nd 1000000000 y.d <= 1000000) :
  Calls Tryz.prog 171 #[x.val 1000000000, y.val 1000000000] w (iC .u32 1000000000 (ae.mulN x.num (ae.Xo y.num)) 0 w) := by
 have S1 := fun (w' : World) (h : BW w w') => sum_any x y w' (zl hw0 h.size) (hx.below h) (hy.below h) ng hxd hyn RF
 have S2 := fun (w' : World) (h : BW w w') => sum_any x ⟨!y.m, y.n, y.d, y.a, y.c, y.b, y.e⟩ w' (zl hw0 h.size) (hx.below h) ⟨hy.sn.below h, hy.sd.below h, ⟨hy.cap.an, hy.cap.bn, hy.cap.cn, hy.cap.cd⟩⟩ ng hxd hyn RF
 obtain ⟨xm, xn, xd, xa, xc, xb, xe⟩ := x
 obtain ⟨ym, yn, yd, ya, yc, yb, ye⟩ := y
 obtain ⟨hx1, hx2, ⟨hx3, hx4, hx5, hx6⟩⟩ := hx
 obtain ⟨hy1, hy2, ⟨hy3, hy4, Y1, Y2⟩⟩ := hy
 dsimp only [bI.num, bI.val] at *
 have hz := fun w' => lH ya (ae.nd 1000000000 yn) yc w'
 rw [show decide ((ae.nd 1000000000 yn : Int) = 0) = false from decide_eq_false (by have := (ae.fM (b := 1000000000) (by omega)).2 (Nat.pos_of_ne_zero h0); omega)] at hz
 refine yE func171 rfl results171 ntmps171 [] [200003] [.agg [.bool xm, .any (.slice xa (ae.nd 1000000000 xn) xc), .any (.slice xb (ae.nd 1000000000 xd) xe)], .agg [.bool ym, .any (.slice ya (ae.nd 1000000000 yn) yc), .any (.slice yb (ae.nd 1000000000 yd) ye)]] w ?_
 repeat' (first | exact ⟨⟩ | refine yG ?_ ?_ | refine yK (.lit false) (fun β w' hm => hz w') ?_ | (refine aH .u32 1000000000 (xn * yd) hw0 (by kernel_rfl) rfl (fun β w' hm => times_any xa yb xc ye xn yd w' (by omega) (by omega) (hx1.below hm.below) (hy2.below hm.below)) (fun p cp h1 h2 h3 => ?_)) | (refine aH .u32 1000000000 (xd * yn) hw0 (by kernel_rfl) rfl (fun β w' hm => times_any xb ya xe yc xd yn w' (by omega) (by omega) (hx2.below hm.below) (hy1.below hm.below)) (fun q cq h4 h5 h6 => ?_)) | refine yO (MK xm ym (fun _ => rfl) (fun _ => rfl) underlying4) ?_ | intro _)
 all_goals refine ret fun β w' hm => ?_
 all_goals first | exact ⟨⟨_, _, _, p, cp, q, cq⟩, rfl, rfl, ⟨h1, h4, h2, h5⟩, oK (hm.dS 3 rfl) (hm.di 3 rfl rfl) (hm.dS 4 rfl) (hm.di 4 rfl rfl), hm.below⟩ | exact ⟨⟨_, _, _, p, cp, q, cq⟩, rfl, rfl, ⟨h1, h4, h2, h5⟩, oK (hm.dS 4 rfl) (hm.di 4 rfl rfl) (hm.dS 3 rfl) (hm.di 3 rfl rfl), hm.below⟩
theorem Ot (x y : bI) (w : World) (hw0 : 0 < w.heap.size) (hx : aX .u32 1000000000 x w) (hy : aX .u32 1000000000 y w) (h0 : y.n = 0)
  (ng : ae.nd 1000000000 x.n <= 1000000) (hxd : ae.nd 1000000000 x.d <= 1000000) (hyn : ae.nd 1000000000 y.n <= 1000000) (RF : ae.nd 1000000000 y.d <= 1000000) :
  Calls Tryz.prog 171 #[x.val 1000000000, y.val 1000000000] w (iC .u32 1000000000 (⟨false, 0, 0⟩) 1 w) := by
 have S1 := fun (w' : World) (h : BW w w') => sum_any x y w' (zl hw0 h.size) (hx.below h) (hy.below h) ng hxd hyn RF
 have S2 := fun (w' : World) (h : BW w w') => sum_any x ⟨!y.m, y.n, y.d, y.a, y.c, y.b, y.e⟩ w' (zl hw0 h.size) (hx.below h) ⟨hy.sn.below h, hy.sd.below h, ⟨hy.cap.an, hy.cap.bn, hy.cap.cn, hy.cap.cd⟩⟩ ng hxd hyn RF
 obtain ⟨xm, xn, xd, xa, xc, xb, xe⟩ := x
 obtain ⟨ym, yn, yd, ya, yc, yb, ye⟩ := y
 obtain ⟨hx1, hx2, ⟨hx3, hx4, hx5, hx6⟩⟩ := hx
 obtain ⟨hy1, hy2, ⟨hy3, hy4, Y1, Y2⟩⟩ := hy
 dsimp only [bI.num, bI.val] at *
 have hz := fun w' => lH ya (ae.nd 1000000000 yn) yc w'
 rw [show decide ((ae.nd 1000000000 yn : Int) = 0) = true from decide_eq_true (by subst h0; rw [ae.aT]; rfl)] at hz
 refine yE func171 rfl results171 ntmps171 [] [200003] [.agg [.bool xm, .any (.slice xa (ae.nd 1000000000 xn) xc), .any (.slice xb (ae.nd 1000000000 xd) xe)], .agg [.bool ym, .any (.slice ya (ae.nd 1000000000 yn) yc), .any (.slice yb (ae.nd 1000000000 yd) ye)]] w ?_
 repeat' (first | exact ⟨⟩ | refine yG ?_ ?_ | refine yK (.lit true) (fun β w' hm => hz w') ?_ | refine yO (MK xm ym (fun _ => rfl) (fun _ => rfl) underlying4) ?_ | intro _)
 all_goals refine ret fun β w' hm => ?_
 all_goals exact ⟨⟨false, 0, 0, none, 0, none, 0⟩, by simp [bI.val, SV.den, SV.aF, ae.aT], rfl, dM, sW, hm.below⟩
end
section
open Go.RowKit
open Sym
attribute [local irreducible] Calls Sym.bM ae.nd ae.bu
theorem jw : (Tryz.prog.info? 3).map (fun i => (i.zero, i.size, i.bytes)) = some (some (.int .i64 0), 1, 8) := by kernel_rfl
theorem mJ (a : Option Addr) (n cap x : Nat) (w : World) (hx : x < 10 ^ n) (hn : n <= cap) (hl : n <= 100000000) (hs : aS a (dC .i64 (ae.lI 10 n x)) w) : QC 181 #[.slice a n cap] w (.slice a (ae.nd 10 x) cap) := by
 refine yE func181 rfl results181 ntmps181 [] [] [.any (.slice a n cap)] w ?_
 repeat' (first | exact ⟨⟩ | refine yG ?_ ?_ | intro _)
 refine yZ (T := {m : Nat // m <= n /\ x < 10 ^ m}) (fun t => ⟨[(0, .any (.slice a t.1 cap))], [], 0, 21⟩) (fun t => t.1) ⟨n, Nat.le_refl _, hx⟩ [] [] (fun t I hI => ?_)
 obtain ⟨m, hm, hxm⟩ := t
 dsimp only
 by_cases h0 : m = 0
 ·subst h0
  rw [ae.wX (b := 10) (by omega) hxm (.inl rfl)]
  repeat' (first | exact ⟨⟩ | refine yG ?_ ?_ | refine yO (aJ underlying70) ?_ | intro _)
  all_goals rfl
 ·obtain ⟨ad, rfl⟩ : ∃ ad, a = some ad := aS.some hs (fun e => by have := congrArg List.length e; rw [kN, ae.nY] at this; simp at this; omega)
  have hc := dW hs (i := m - 1) (iH (ae.kQ 10 n x (m - 1) (by omega)))
  obtain ⟨m', hm'⟩ : ∃ m', m = m' + 1 := ⟨m - 1, by omega⟩
  have ht := fun h => ae.EH (b := 10) (x := x) (m := m') (by omega) (by rw [<- hm']; exact hxm) h
  have he := fun h => ae.wX (b := 10) (x := x) (m := m) (by omega) hxm (.inr h)
  rw [show m - 1 = m' by omega] at hc he
  generalize ae.bu 10 m' x = dd at *
  repeat' (first | exact ⟨⟩ | refine yG ?_ ?_ | refine yO (aJ underlying70) ?_ | refine yN (j := m') underlying70 sizeOf3 ?_ | refine yO (v := .int .i64 (dd : Nat)) (dh (fun w => isAgg3 w) (fun w' hb β => by rw [Nat.mul_one]; exact hc w' hb)) ?_ | refine yO (WJ (j := m') (by omega) underlying70 (fun w => sizeOf3 w) (by omega)) ?_ | intro _)
  all_goals first | (refine hI _ ⟨m', by omega, ht (by omega)⟩ (by dsimp only; omega) yW; done) | (rw [he (by omega)]; rfl)
def ae.rq (x y : Nat) : Int := if x < y then -1 else if y < x then 1 else 0
theorem ae.QB {b x y j : Nat} (hb : 2 <= b) (h : x / b ^ (j + 1) = y / b ^ (j + 1)) (hd : ae.bu b j x ≠ ae.bu b j y) : ae.rq x y = if ae.bu b j x < ae.bu b j y then -1 else 1 := by
 unfold ae.rq
 rcases Nat.lt_or_ge (ae.bu b j x) (ae.bu b j y) with h1 | h1
 ·rw [if_pos (ae.vV (by omega) h h1), if_pos h1]
 ·have := ae.vV (b := b) (by omega) h.symm (by omega : ae.bu b j y < ae.bu b j x)
  rw [if_neg (by omega), if_pos this, if_neg (by omega)]
theorem l7 (a b : Option Addr) (ca cb x y : Nat) (w : World) (hx : ae.nd 10 x <= 100000000) (hy : ae.nd 10 y <= 100000000) (hs : aS a (nv .i64 10 x) w) (ht : aS b (nv .i64 10 y) w) :
  QC 183 #[.slice a (ae.nd 10 x) ca, .slice b (ae.nd 10 y) cb] w (.int .i64 (ae.rq x y)) := by
 refine yE func183 rfl results183 ntmps183 [] [] [.any (.slice a (ae.nd 10 x) ca), .any (.slice b (ae.nd 10 y) cb)] w ?_
 by_cases hn : ae.nd 10 x = ae.nd 10 y
 ·have hxp := ae.dP (b := 10) (by omega) x
  have hyp := ae.dP (b := 10) (by omega) y
  have h0 : x / 10 ^ ae.nd 10 x = y / 10 ^ ae.nd 10 x := by rw [Nat.div_eq_of_lt hxp, hn, Nat.div_eq_of_lt hyp]
  have htop := fun j => ae.QB (b := 10) (x := x) (y := y) (j := j) (by omega)
  have hnext := fun j => ae.Hq (b := 10) (x := x) (y := y) (i := j) (by omega)
  have hcs : x / 10 ^ 0 = y / 10 ^ 0 -> ae.rq x y = 0 := fun h => by simp only [Nat.pow_zero, Nat.div_one] at h; subst h; unfold ae.rq; simp
  clear hxp hyp
  have hgx := fun i (h : i < ae.nd 10 x) => eQ (k := .i64) h
  have D8 := fun i (h : i < ae.nd 10 y) => eQ (k := .i64) h
  have hnx := iJ (k := .i64) (b := 10) (x := x)
  have hny := iJ (k := .i64) (b := 10) (x := y)
  rw [<- hn] at D8 hny ⊢
  have tV := fun i => ae.dG (b := 10) (by omega) i x
  have hdy := fun i => ae.dG (b := 10) (by omega) i y
  generalize ae.nd 10 x = n at *
  generalize ae.rq x y = cv at *
  repeat' (first | exact ⟨⟩ | refine yG ?_ ?_ | refine yO (aJ underlying70) ?_ | intro _)
  refine yZ (T := {j : Nat // j <= n /\ x / 10 ^ j = y / 10 ^ j}) (fun t => ⟨[(0, .any (.slice a n ca)), (1, .any (.slice b n cb)), (5, .int .i64 ((t.1 : Nat) - 1 : Int))], [], 0, 41⟩) (fun t => t.1) ⟨n, Nat.le_refl _, h0⟩ [] [] (fun t I hI => ?_)
  obtain ⟨j, hj, hxy⟩ := t
  dsimp only
  by_cases hj0 : j = 0
  ·subst hj0
   rw [hcs hxy]
   repeat' (first | exact ⟨⟩ | refine yG ?_ ?_ | intro _)
   all_goals rfl
  ·obtain ⟨i, rfl⟩ : ∃ i, j = i + 1 := ⟨j - 1, by omega⟩
   obtain ⟨ad, rfl⟩ := aS.some hs (hnx (by omega))
   obtain ⟨bd, rfl⟩ := aS.some ht (hny (by omega))
   have h1 := dW hs (hgx i (by omega))
   have h2 := dW ht (D8 i (by omega))
   have htop := htop i hxy
   have hnext := hnext i hxy
   have tV := tV i
   have hdy := hdy i
   generalize ae.bu 10 i x = dx at *
   generalize ae.bu 10 i y = dy at *
   repeat' (first | exact ⟨⟩ | refine yG ?_ ?_ | refine yO (aJ underlying70) ?_ | refine yN (j := i) underlying70 sizeOf3 ?_ | refine yO (v := .int .i64 (dx : Nat)) (dh (fun w => isAgg3 w) (fun w' hb β => by rw [Nat.mul_one]; exact h1 w' hb)) ?_ | refine yO (v := .int .i64 (dy : Nat)) (dh (fun w => isAgg3 w) (fun w' hb β => by rw [Nat.mul_one]; exact h2 w' hb)) ?_ | intro _)
   ·rw [htop (by omega), if_pos (by omega)]; rfl
   ·rw [htop (by omega), if_neg (by omega)]; rfl
   ·refine hI _ ⟨i, by omega, hnext (by omega)⟩ (by dsimp only; omega) yW
 ·have hcv : ae.rq x y = if ae.nd 10 x < ae.nd 10 y then -1 else 1 := by
   unfold ae.rq
   rcases Nat.lt_or_ge (ae.nd 10 x) (ae.nd 10 y) with h | h
   ·rw [if_pos (ae.tY (by omega) h), if_pos h]
   ·have := ae.tY (b := 10) (x := y) (y := x) (by omega) (by omega)
    rw [if_neg (by omega), if_pos this, if_neg (by omega)]
  rw [hcv]
  generalize ae.nd 10 x = n at *
  generalize ae.nd 10 y = m at *
  repeat' (first | exact ⟨⟩ | refine yG ?_ ?_ | refine yO (aJ underlying70) ?_ | intro _)
  ·rw [if_pos (by omega)]; rfl
  ·rw [if_neg (by omega)]; rfl
theorem rE (a : Option Addr) (ca x i : Nat) (w : World) (hx : ae.nd 10 x <= 100000000) (hi : i <= 1000000000) (hs : aS a (nv .i64 10 x) w) :
  QC 214 #[.slice a (ae.nd 10 x) ca, .int .i64 (i : Nat)] w (.int .i64 (ae.bu 10 i x : Nat)) := by
 refine yE func214 rfl results214 ntmps214 [] [] [.any (.slice a (ae.nd 10 x) ca), .int .i64 (i : Nat)] w ?_
 by_cases h : i < ae.nd 10 x
 ·obtain ⟨ad, rfl⟩ := aS.some hs (iJ (by omega))
  have h1 := dW hs (eQ (k := .i64) h)
  generalize ae.nd 10 x = n at *
  generalize ae.bu 10 i x = dx at *
  repeat' (first | exact ⟨⟩ | refine yG ?_ ?_ | refine yO (aJ underlying70) ?_ | refine yN (j := i) underlying70 sizeOf3 ?_ | refine yO (v := .int .i64 (dx : Nat)) (dh (fun w => isAgg3 w) (fun w' hb β => by rw [Nat.mul_one]; exact h1 w' hb)) ?_ | intro _)
  all_goals rfl
 ·rw [ae.vY (b := 10) (by omega) (by omega : ae.nd 10 x <= i)]
  generalize ae.nd 10 x = n at *
  repeat' (first | exact ⟨⟩ | refine yG ?_ ?_ | refine yO (aJ underlying70) ?_ | intro _)
  all_goals rfl
abbrev yY (fr : List (Nat × SV)) (d n i : Nat) (g cap : Nat) (xs : List Value) : St := match i with
 | 0 => ⟨(d, .any (.slice none 0 0)) :: fr, [], 0, n⟩
 | i + 1 => ⟨(d, .any (.slice (some ⟨g, 0, none⟩) (i + 1) cap)) :: fr, [(1, true, .aK (dN 3 1 g (i + 1) cap xs))], 2, n⟩
theorem yx (a b : Option Addr) (ca cb x y : Nat) (w : World) (hx : ae.nd 10 x <= 100000000) (hy : ae.nd 10 y <= 100000000) (hs : aS a (nv .i64 10 x) w) (ht : aS b (nv .i64 10 y) w) :
  Calls Tryz.prog 182 #[.slice a (ae.nd 10 x) ca, .slice b (ae.nd 10 y) cb] w (iT .i64 10 (x + y) w) := by
 obtain ⟨i0, hi, hz0, hz1, hz2⟩ := info_parts jw
 have hu := underlying70
 have hsz := fun w => sizeOf3 w
 have hzv := fun w => zeroValue3 w
 have hnext := fun {i c S} => ae.Ej (b := 10) (x := x) (y := y) (i := i) (c := c) (S := S) (by omega)
 have hend := fun {i S} => ae.Ji (b := 10) (x := x) (y := y) (i := i) (S := S) (by omega)
 have hcar := fun {i c S} => ae.BR (b := 10) (x := x) (y := y) (i := i) (c := c) (S := S) (by omega)
 have hov := fun {i c S} => ae.Em (b := 10) (x := x) (y := y) (i := i) (c := c) (S := S) (by omega)
 have tV := fun i => ae.dG (b := 10) (by omega) i x
 have hdy := fun i => ae.dG (b := 10) (by omega) i y
 have HX := fun i (h : i <= 1000000000) w' hb => rE a ca x i w' hx h (aS.below hs hb)
 have HY := fun i (h : i <= 1000000000) w' hb => rE b cb y i w' hy h (aS.below ht hb)
 refine yE func182 rfl results182 ntmps182 [] [] [.any (.slice a (ae.nd 10 x) ca), .any (.slice b (ae.nd 10 y) cb)] w ?_
 generalize ae.nd 10 x = n at *
 generalize ae.nd 10 y = m at *
 repeat' (first | exact ⟨⟩ | refine yG ?_ ?_ | intro _)
 refine loop bF rfl (T := {t : ZK // ae.Au 10 x y t.i t.c t.S /\ t.i <= max n m + 1}) (fun t => yY [(0, .any (.slice a n ca)), (1, .any (.slice b m cb)), (6, .int .i64 (t.1.c : Nat)), (7, .int .i64 (t.1.i : Nat))] 5 42 t.1.i t.1.g t.1.cap (dC .i64 (ae.lI 10 t.1.i t.1.S))) (fun t => max n m + 2 - t.1.i) ⟨⟨0, 0, 0, 0, 0⟩, ⟨by simp [Nat.mod_one], by simp, .inl rfl⟩, Nat.zero_le _⟩ 1000 [] [] (fun t => by exact Nat.zero_le _) (by dsimp only [yY]; ((with_reducible show wk _ _); repeat' (first | exact trivial | exact au _ | refine eY ?_ | refine eqS ?_ | apply And.intro | exact yV | fail))) (fun t I hI => ?_)
 obtain ⟨⟨i, c, S, g, cap⟩, hP, hib⟩ := t
 dsimp only at hP hib ⊢
 have hc := hcar hP
 have hS := hP.lt
 have hN := hnext hP
 have hE := fun (h : c = 0) => by subst h; exact hend hP
 have tV := tV i
 have hdy := hdy i
 have hrow := fun (v : Int) (d : Nat) (hd : d < 10) (hv : v = (d : Int)) => ae.sH (k := .i64) (b := 10) (i := i) (S := S) (by omega) hS hd hv
 have HX := HX i (by omega)
 have HY := HY i (by omega)
 have htop : i <= max n m \/ c = 0 := by
  rcases Nat.lt_or_ge (max n m) i with h | h
  ·exact .inr (hov hP (by omega) (by omega))
  ·exact .inl h
 clear hnext hend hcar hov
 generalize ae.bu 10 i x = dx at *
 generalize ae.bu 10 i y = dy at *
 by_cases hgo : i < n \/ i < m \/ 0 < c
 ·cases i with
  | zero =>
    dsimp only [yY]
    repeat' (first | exact ⟨⟩ | refine yG ?_ ?_ | refine yB (.int .i64 (dx : Nat)) (fun _ => HX) ?_ | refine yB (.int .i64 (dy : Nat)) (fun _ => HY) ?_ | (refine aI (sz := 1) rfl rfl rfl (xs := [.int .i64 (((c + dx + dy) % 10 : Nat) : Int)]) (fun β => by simp only [SV.aF, SV.den]; congr 2; omega) rfl (by omega) (by omega) hu hsz hzv (fun g1 => ?_)) | (refine iK (sz := 1) 0 rfl hu hi hz0 hz1 rfl (by omega) rfl rfl rfl (by unfold maxLen; omega) (by rw [hz2]; omega) (by simp [Value.oneCell']) (by omega) (fun g2 cap2 => ?_)) | refine yO (aJ underlying70) ?_ | refine yO (jv (by omega) (by omega)) ?_ | refine yO (qh (by omega) (by omega) (by simp only [uu]; omega)) ?_ | intro _)
    all_goals first | (refine hI _ ⟨⟨0 + 1, (c + dx + dy) / 10, S + (c + dx + dy) % 10 * 10 ^ 0, g2, cap2⟩, hN hgo, by dsimp only; omega⟩ (by dsimp only; omega) (by dsimp only [yY]; rw [<- hrow _ ((c + dx + dy) % 10) (by omega) rfl]; ((with_reducible show wk _ _); repeat' (first | exact trivial | exact au _ | refine eY ?_ | refine eqS ?_ | apply And.intro | exact yV | fail)); all_goals (exact fun b x h => h)); done) | (exfalso; omega)
  | succ i =>
    dsimp only [yY]
    repeat' (first | exact ⟨⟩ | refine yG ?_ ?_ | refine yB (.int .i64 (dx : Nat)) (fun _ => HX) ?_ | refine yB (.int .i64 (dy : Nat)) (fun _ => HY) ?_ | (refine aI (sz := 1) rfl rfl rfl (xs := [.int .i64 (((c + dx + dy) % 10 : Nat) : Int)]) (fun β => by simp only [SV.aF, SV.den]; congr 2; omega) rfl (by omega) (by omega) hu hsz hzv (fun g1 => ?_)) | (refine fO (sz := 1) 1 2 rfl hu hi hz0 hz1 rfl (by omega) rfl rfl rfl rfl (by unfold maxLen; omega) (by rw [hz2]; omega) (by simp [Value.oneCell']) (by kernel_rfl) (Nat.zero_le _) (fun g2 cap2 => ?_)) | refine yO (aJ underlying70) ?_ | refine yO (jv (by omega) (by omega)) ?_ | refine yO (qh (by omega) (by omega) (by simp only [uu]; omega)) ?_ | intro _)
    all_goals first | (refine hI _ ⟨⟨i + 1 + 1, (c + dx + dy) / 10, S + (c + dx + dy) % 10 * 10 ^ (i + 1), g2, cap2⟩, hN hgo, by dsimp only; omega⟩ (by dsimp only; omega) (by dsimp only [yY]; rw [<- hrow _ ((c + dx + dy) % 10) (by omega) rfl]; ((with_reducible show wk _ _); repeat' (first | exact trivial | exact au _ | refine eY ?_ | refine eqS ?_ | apply And.intro | exact yV | fail)); all_goals (exact fun b x h => h)); done) | (exfalso; omega)
 ·obtain ⟨rfl, hie⟩ := hE (by omega) (by omega) (by omega)
  cases i with
  | zero =>
    dsimp only [yY]
    have e : nv .i64 10 (x + y) = [] := List.length_eq_zero_iff.1 (by rw [jT, <- hie])
    repeat' (first | exact ⟨⟩ | refine yG ?_ ?_ | refine yO (aJ underlying70) ?_ | intro _)
    refine ret fun β w' hm => ?_
    exact ⟨none, 0, by rw [<- hie]; rfl, by rw [e]; exact qJ _ _, fun h => absurd e h, fun _ => rfl, by rw [<- hie]; exact Nat.le_refl _, hm.below⟩
  | succ i =>
    dsimp only [yY]
    have e : nv .i64 10 (x + y) = dC .i64 (ae.lI 10 (i + 1) (x + y)) := by show dC .i64 (ae.lI 10 (ae.nd 10 (x + y)) (x + y)) = _; rw [<- hie]
    repeat' (first | exact ⟨⟩ | refine yG ?_ ?_ | refine yO (aJ underlying70) ?_ | intro _)
    refine ret fun β w' hm => ?_
    obtain ⟨q1, q2, q3⟩ := Mem.own hm 1 rfl
    exact ⟨_, cap, by rw [<- hie]; rfl, by rw [e]; exact q1, by rw [e]; exact bY q2 rfl, (fun h => by cases h), by rw [<- hie]; exact q3, hm.below⟩
theorem uh (a b : Option Addr) (ca cb x y : Nat) (w : World) (hx : ae.nd 10 x <= 100000000) (hy : ae.nd 10 y <= 100000000) (hyx : y <= x) (hs : aS a (nv .i64 10 x) w) (ht : aS b (nv .i64 10 y) w) :
  Calls Tryz.prog 184 #[.slice a (ae.nd 10 x) ca, .slice b (ae.nd 10 y) cb] w (iT .i64 10 (x - y) w) := by
 obtain ⟨i0, hi, hz0, hz1, hz2⟩ := info_parts jw
 have hu := underlying70
 have hsz := fun w => sizeOf3 w
 have hzv := fun w => zeroValue3 w
 have tV := fun i => ae.dG (b := 10) (by omega) i x
 have hdy := fun i => ae.dG (b := 10) (by omega) i y
 have hgx := fun i (h : i < ae.nd 10 x) => eQ (k := .i64) h
 have hnx := iJ (k := .i64) (b := 10) (x := x)
 have HY := fun i (h : i <= 1000000000) w' hb => rE b cb y i w' hy h (aS.below ht hb)
 have Xn := ae.dP (b := 10) (by omega) x
 have hTR := fun a (cap V : Nat) (w' : World) (hV : V < 10 ^ ae.nd 10 x) hc hs' => mJ a (ae.nd 10 x) cap V w' hV hc hx hs'
 refine yE func184 rfl results184 ntmps184 [] [] [.any (.slice a (ae.nd 10 x) ca), .any (.slice b (ae.nd 10 y) cb)] w ?_
 generalize ae.nd 10 x = n at *
 generalize ae.nd 10 y = m at *
 repeat' (first | exact ⟨⟩ | refine yG ?_ ?_ | refine yO (aJ underlying70) ?_ | intro _)
 refine loop bF rfl (T := {t : ZK // ae.uI 10 x y t.i t.c t.S /\ t.i <= n}) (fun t => yY [(0, .any (.slice a n ca)), (1, .any (.slice b m cb)), (6, .int .i64 (t.1.c : Nat)), (10, .int .i64 (n : Nat)), (11, .int .i64 (t.1.i : Nat))] 5 35 t.1.i t.1.g t.1.cap (dC .i64 (ae.lI 10 t.1.i t.1.S))) (fun t => n - t.1.i) ⟨⟨0, 0, 0, 0, 0⟩, ⟨by simp [Nat.mod_one], by simp, by simp⟩, Nat.zero_le _⟩ 1000 [] [] (fun t => by exact Nat.zero_le _) (by dsimp only [yY]; ((with_reducible show wk _ _); repeat' (first | exact trivial | exact au _ | refine eY ?_ | refine eqS ?_ | apply And.intro | exact yV | fail))) (fun t I hI => ?_)
 obtain ⟨⟨i, c, D, g, cap⟩, hM, hin⟩ := t
 dsimp only at hM hin ⊢
 have hc := hM.bit
 have hD := hM.lt
 by_cases hlt : i < n
 ·obtain ⟨ad, rfl⟩ := aS.some hs (hnx (by omega))
  have r1 := dW hs (hgx i hlt)
  have hn1 := ae.BH (b := 10) (by omega) hM
  have hn0 := ae.zH (b := 10) (by omega) hM
  have tV := tV i
  have hdy := hdy i
  have HY := HY i (by omega)
  have hrow := fun (v : Int) (d : Nat) (hd : d < 10) (hv : v = (d : Int)) => ae.sH (k := .i64) (b := 10) (i := i) (S := D) (by omega) hD hd hv
  generalize ae.bu 10 i x = dx at *
  generalize ae.bu 10 i y = dy at *
  cases i with
  | zero =>
    dsimp only [yY]
    by_cases hb : dx < c + dy
    ·repeat' (first | exact ⟨⟩ | refine yG ?_ ?_ | (refine aI (sz := 1) rfl rfl rfl (xs := [.int .i64 ((dx + 10 - (c + dy) : Nat) : Int)]) (fun β => by simp only [SV.aF, SV.den]; congr 2; omega) rfl (by omega) (by omega) hu hsz hzv (fun g1 => ?_)) | (refine iK (sz := 1) 0 rfl hu hi hz0 hz1 rfl (by omega) rfl rfl rfl (by unfold maxLen; omega) (by rw [hz2]; omega) (by simp [Value.oneCell']) (by omega) (fun g2 cap2 => ?_)) | ((with_reducible show ∃ _ : SV, _); first | refine yO (aJ underlying70) ?_ | refine yN (j := 0) underlying70 sizeOf3 ?_ | refine yO (v := .int .i64 (dx : Nat)) (dh (fun w => isAgg3 w) (fun w' hb β => by rw [Nat.mul_one]; exact r1 w' hb)) ?_ | (refine ⟨.int .i64 (dy : Nat), by kernel_rfl, trivial, fun β w hm => HY w hm.below, ?_⟩)) | intro _)
     refine hI _ ⟨⟨0 + 1, 1, D + (dx + 10 - (c + dy)) * 10 ^ 0, g2, cap2⟩, hn1 hb, by dsimp only; omega⟩ (by dsimp only; omega) (by dsimp only [yY]; rw [<- hrow _ (dx + 10 - (c + dy)) (by omega) rfl]; ((with_reducible show wk _ _); repeat' (first | exact trivial | exact au _ | refine eY ?_ | refine eqS ?_ | apply And.intro | exact yV | fail)); all_goals (exact fun b x h => h))
    ·repeat' (first | exact ⟨⟩ | refine yG ?_ ?_ | (refine aI (sz := 1) rfl rfl rfl (xs := [.int .i64 ((dx - (c + dy) : Nat) : Int)]) (fun β => by simp only [SV.aF, SV.den]; congr 2; omega) rfl (by omega) (by omega) hu hsz hzv (fun g1 => ?_)) | (refine iK (sz := 1) 0 rfl hu hi hz0 hz1 rfl (by omega) rfl rfl rfl (by unfold maxLen; omega) (by rw [hz2]; omega) (by simp [Value.oneCell']) (by omega) (fun g2 cap2 => ?_)) | ((with_reducible show ∃ _ : SV, _); first | refine yO (aJ underlying70) ?_ | refine yN (j := 0) underlying70 sizeOf3 ?_ | refine yO (v := .int .i64 (dx : Nat)) (dh (fun w => isAgg3 w) (fun w' hb β => by rw [Nat.mul_one]; exact r1 w' hb)) ?_ | (refine ⟨.int .i64 (dy : Nat), by kernel_rfl, trivial, fun β w hm => HY w hm.below, ?_⟩)) | intro _)
     refine hI _ ⟨⟨0 + 1, 0, D + (dx - (c + dy)) * 10 ^ 0, g2, cap2⟩, hn0 hb, by dsimp only; omega⟩ (by dsimp only; omega) (by dsimp only [yY]; rw [<- hrow _ (dx - (c + dy)) (by omega) rfl]; ((with_reducible show wk _ _); repeat' (first | exact trivial | exact au _ | refine eY ?_ | refine eqS ?_ | apply And.intro | exact yV | fail)); all_goals (exact fun b x h => h))
  | succ i =>
    dsimp only [yY]
    by_cases hb : dx < c + dy
    ·repeat' (first | exact ⟨⟩ | refine yG ?_ ?_ | (refine aI (sz := 1) rfl rfl rfl (xs := [.int .i64 ((dx + 10 - (c + dy) : Nat) : Int)]) (fun β => by simp only [SV.aF, SV.den]; congr 2; omega) rfl (by omega) (by omega) hu hsz hzv (fun g1 => ?_)) | (refine fO (sz := 1) 1 2 rfl hu hi hz0 hz1 rfl (by omega) rfl rfl rfl rfl (by unfold maxLen; omega) (by rw [hz2]; omega) (by simp [Value.oneCell']) (by kernel_rfl) (Nat.zero_le _) (fun g2 cap2 => ?_)) | ((with_reducible show ∃ _ : SV, _); first | refine yO (aJ underlying70) ?_ | refine yN (j := i + 1) underlying70 sizeOf3 ?_ | refine yO (v := .int .i64 (dx : Nat)) (dh (fun w => isAgg3 w) (fun w' hb β => by rw [Nat.mul_one]; exact r1 w' hb)) ?_ | (refine ⟨.int .i64 (dy : Nat), by kernel_rfl, trivial, fun β w hm => HY w hm.below, ?_⟩)) | intro _)
     refine hI _ ⟨⟨i + 1 + 1, 1, D + (dx + 10 - (c + dy)) * 10 ^ (i + 1), g2, cap2⟩, hn1 hb, by dsimp only; omega⟩ (by dsimp only; omega) (by dsimp only [yY]; rw [<- hrow _ (dx + 10 - (c + dy)) (by omega) rfl]; ((with_reducible show wk _ _); repeat' (first | exact trivial | exact au _ | refine eY ?_ | refine eqS ?_ | apply And.intro | exact yV | fail)); all_goals (exact fun b x h => h))
    ·repeat' (first | exact ⟨⟩ | refine yG ?_ ?_ | (refine aI (sz := 1) rfl rfl rfl (xs := [.int .i64 ((dx - (c + dy) : Nat) : Int)]) (fun β => by simp only [SV.aF, SV.den]; congr 2; omega) rfl (by omega) (by omega) hu hsz hzv (fun g1 => ?_)) | (refine fO (sz := 1) 1 2 rfl hu hi hz0 hz1 rfl (by omega) rfl rfl rfl rfl (by unfold maxLen; omega) (by rw [hz2]; omega) (by simp [Value.oneCell']) (by kernel_rfl) (Nat.zero_le _) (fun g2 cap2 => ?_)) | ((with_reducible show ∃ _ : SV, _); first | refine yO (aJ underlying70) ?_ | refine yN (j := i + 1) underlying70 sizeOf3 ?_ | refine yO (v := .int .i64 (dx : Nat)) (dh (fun w => isAgg3 w) (fun w' hb β => by rw [Nat.mul_one]; exact r1 w' hb)) ?_ | (refine ⟨.int .i64 (dy : Nat), by kernel_rfl, trivial, fun β w hm => HY w hm.below, ?_⟩)) | intro _)
     refine hI _ ⟨⟨i + 1 + 1, 0, D + (dx - (c + dy)) * 10 ^ (i + 1), g2, cap2⟩, hn0 hb, by dsimp only; omega⟩ (by dsimp only; omega) (by dsimp only [yY]; rw [<- hrow _ (dx - (c + dy)) (by omega) rfl]; ((with_reducible show wk _ _); repeat' (first | exact trivial | exact au _ | refine eY ?_ | refine eqS ?_ | apply And.intro | exact yV | fail)); all_goals (exact fun b x h => h))
 ·obtain rfl : i = n := by omega
  obtain ⟨rfl, -⟩ := ae.Ec (b := 10) (by omega) hM Xn hyx
  have hle := ae.dX (b := 10) (by omega) hD
  cases i with
  | zero =>
    dsimp only [yY]
    have h0 : ae.nd 10 (x - y) = 0 := by omega
    have e : nv .i64 10 (x - y) = [] := List.length_eq_zero_iff.1 (by rw [jT, h0])
    have hT := fun w' => hTR none 0 (x - y) w' hD (Nat.le_refl _) (qJ _ _)
    rw [h0] at hT
    repeat' (first | exact ⟨⟩ | refine yG ?_ ?_ | refine yA (.any (.slice none 0 0)) (fun _ => hT) ?_ | refine yO (aJ underlying70) ?_ | intro _)
    refine ret fun β w' hm => ?_
    exact ⟨none, 0, by rw [h0]; rfl, by rw [e]; exact qJ _ _, fun h => absurd e h, fun _ => rfl, by rw [h0]; exact Nat.le_refl _, hm.below⟩
  | succ i =>
    dsimp only [yY]
    repeat' (first | exact ⟨⟩ | refine yG ?_ ?_ | refine yK (.any (.slice (some ⟨g, 0, none⟩) (ae.nd 10 (x - y)) cap)) (fun β w hm => hTR (some ⟨g, 0, none⟩) cap (x - y) w hD (Mem.own hm 1 rfl).2.2 (Mem.own hm 1 rfl).1) ?_ | refine yO (aJ underlying70) ?_ | intro _)
    refine ret fun β w' hm => ?_
    obtain ⟨q1, q2, q3⟩ := Mem.own hm 1 rfl
    exact ⟨_, cap, rfl, kK q1 (ja hle .i64), bY q2 rfl, (fun h => by cases h), Nat.le_trans hle q3, hm.below⟩
end
section
open Sym
namespace ae
def Ue (b x y i N k : Nat) : List Nat := tab N (fun j => bu b j ((x % b ^ i) * y) + if i <= j /\ j < i + k then bu b i x * bu b (j - i) y else 0)
def Uf (b x y i N k S : Nat) : List Nat := tab N (fun j => if j < k then bu b j S else FW b x y i j)
theorem SA (b x y i N : Nat) : Ue b x y i N 0 = lI b N ((x % b ^ i) * y) := by
 unfold Ue lI
 apply iQ
 intro j hj
 rw [if_neg (by omega), Nat.add_zero]
theorem VE (b x y i N k : Nat) : (Ue b x y i N k).set (i + k) (bu b (i + k) ((x % b ^ i) * y) + bu b i x * bu b k y) = Ue b x y i N (k + 1) := by
 unfold Ue
 rw [Ap]
 apply iQ
 intro j hj
 by_cases h : j = i + k
 ·subst h
  rw [if_pos rfl, if_pos (by omega), Nat.add_sub_cancel_left]
 ·rw [if_neg h]
  congr 1
  by_cases h2 : i <= j /\ j < i + k
  ·rw [if_pos h2, if_pos (by omega)]
  ·rw [if_neg h2, if_neg (by omega)]
theorem VD {b x y i N k : Nat} (h : i + k < N) : (Ue b x y i N k)[i + k]? = some (bu b (i + k) ((x % b ^ i) * y)) := by
 unfold Ue; rw [uk _ _ _ h, if_neg (by omega), Nat.add_zero]
theorem VC {b x y i N : Nat} (hb : 2 <= b) : Ue b x y i N (nd b y) = Uf b x y i N i (((x % b ^ i) * y) % b ^ i) := by
 unfold Ue Uf FW
 apply iQ
 intro j hj
 by_cases h : j < i
 ·rw [if_pos h, if_neg (by omega), Nat.add_zero]
  have e := parts b ((x % b ^ i) * y) i
  have hl : (x % b ^ i) * y % b ^ i < b ^ i := Nat.mod_lt _ (Nat.pow_pos (by omega))
  have e2 := Nat.mod_add_div ((x % b ^ i) * y) (b ^ i)
  rw [Nat.mul_comm (b ^ i)] at e2
  have e3 := kR (by omega : 0 < b) hl (m := (x % b ^ i) * y / b ^ i) j
  rw [e2, if_pos h] at e3
  exact e3
 ·rw [if_neg h]
  congr 1
  by_cases h2 : j < i + nd b y
  ·rw [if_pos ⟨by omega, h2⟩, if_pos (by omega)]
  ·rw [if_neg (by omega), if_pos (by omega), vY hb (by omega : nd b y <= j - i), Nat.mul_zero]
theorem VH {b x y i N k S d : Nat} (hb : 0 < b) (hS : S < b ^ k) (hd : d < b) : (Uf b x y i N k S).set k d = Uf b x y i N (k + 1) (S + d * b ^ k) := by
 unfold Uf
 rw [Ap]
 apply iQ
 intro j hj
 have e := kR hb hS (m := d) j
 by_cases h1 : j < k
 ·rw [if_neg (by omega), if_pos h1, if_pos (by omega), e, if_pos h1]
 ·by_cases h2 : j = k
  ·subst h2
   rw [if_pos rfl, if_pos (by omega), e, if_neg h1, Nat.sub_self]
   simp [bu, Nat.mod_eq_of_lt hd]
  ·rw [if_neg h2, if_neg h1, if_neg (by omega)]
theorem VG {b x y i N k S : Nat} (h : k < N) : (Uf b x y i N k S)[k]? = some (FW b x y i k) := by
 unfold Uf; rw [uk _ _ _ h, if_neg (by omega)]
theorem VF (b x y i N S : Nat) : Uf b x y i N N S = lI b N S := by
 unfold Uf lI; exact iQ fun k hk => by rw [if_pos hk]
theorem Vf {x y i k : Nat} : FW 10 x y i k <= 90 := by
 unfold FW
 have h1 := dG (b := 10) (by omega) k ((x % 10 ^ i) * y)
 have h2 := dG (b := 10) (by omega) i x
 have h3 := dG (b := 10) (by omega) (k - i) y
 have h4 : bu 10 i x * bu 10 (k - i) y <= 9 * 9 := Nat.mul_le_mul (by omega) (by omega)
 split <;> omega
end ae
end
end Go.Proofs.YtdkhkfdenlabaaaGreatDoor
