/- The sG numbers: halves and prod -/
import Derived.Test.YtdkhkfdenlabaaaGreatDoorVGG
import Derived.Test.YtdkhkfdenlabaaaGreatDoorVGK
import Derived.Test.YtdkhkfdenlabaaaGreatDoorVGH
import Derived.Test.YtdkhkfdenlabaaaGreatDoorVGD
import Derived.Lib.AtoiErrMem
import Derived.Test.YtdkhkfdenlabaaaGreatDoorVGI
import Derived.Shelf.Strings.SlTrimAscii
set_option linter.unusedSimpArgs false
set_option linter.unusedVariables false
set_option maxRecDepth 100000
set_option maxHeartbeats 64000000
namespace Go.Proofs.YtdkhkfdenlabaaaGreatDoor
open Go.Proofs.Tryz
section
open Go.RowKit
open Sym
attribute [local irreducible] Calls Sym.bM ae.nd ae.bu ae.upd ae.FW
theorem Iz (a : Option Addr) (ca x : Nat) (w : World) (hx : ae.nd 10 x <= 100000000) (hs : aS a (nv .i64 10 x) w) :
  Calls Tryz.prog 155 #[.slice a (ae.nd 10 x) ca] w (iT .i64 10 (x / 2) w) := by
 obtain ⟨i0, hi, hz0, hz1, hz2⟩ := info_parts jw
 have hu := underlying70
 have hgx := fun i (h : i < ae.nd 10 x) => eQ (k := .i64) h
 have hnx := iJ (k := .i64) (b := 10) (x := x)
 have tV := fun i => ae.dG (b := 10) (by omega) i x
 have hxl := ae.dP (b := 10) (by omega) x
 have hTR := fun g (V : Nat) (w' : World) (hV : V < 10 ^ ae.nd 10 x) hs' => mJ (some ⟨g, 0, none⟩) (ae.nd 10 x) (ae.nd 10 x) V w' hV (Nat.le_refl _) hx hs'
 refine yE func155 rfl results155 ntmps155 [] [] [.any (.slice a (ae.nd 10 x) ca)] w ?_
 generalize ae.nd 10 x = n at *
 repeat' (first | exact ⟨⟩ | refine yG ?_ ?_ | (refine pM (m := n) rfl (by omega) rfl rfl hu hi hz0 hz1 rfl (by rw [hz2]; omega) (by unfold maxLen; omega) (fun g => ?_)) | refine yO (aJ underlying70) ?_ | intro _)
 rw [ug 10]
 refine loop bF rfl (T := {t : Nat × Nat × Nat // t.1 <= n /\ ae.G5 10 x 2 t.1 t.2.1 t.2.2}) (fun t => ⟨[(0, .any (.slice a n ca)), (3, .any (.slice (some ⟨g, 0, none⟩) n n)), (4, .int .i64 (t.1.2.2 : Nat)), (5, .int .i64 ((t.1.1 : Nat) - 1 : Int))], [(0, true, .aK (dN 3 1 g n n (dC .i64 (ae.lI 10 n t.1.2.1))))], 1, 33⟩) (fun t => t.1.1) ⟨(n, 0, 0), Nat.le_refl _, ae.xI hxl⟩ 1000 [] [] (fun _ => by exact Nat.zero_le _) (by dsimp only; ((with_reducible show wk _ _); repeat' (first | exact trivial | exact au _ | refine eY ?_ | refine eqS ?_ | apply And.intro | exact yV | fail)); all_goals exact fun b x h => h) (fun t I hI => ?_)
 obtain ⟨⟨j, V, r⟩, hj, hD⟩ := t
 dsimp only at hj hD ⊢
 by_cases hj0 : j = 0
 ·subst hj0
  obtain ⟨rfl, -⟩ := ae.Fh hD
  have hl := ae.div_lt (by omega) hD hxl
  repeat' (first | exact ⟨⟩ | refine yG ?_ ?_ | refine yK (.any (.slice (some ⟨g, 0, none⟩) (ae.nd 10 (x / 2)) n)) (fun β w hm => hTR g (x / 2) w hl (Mem.own hm 0 rfl).1) ?_ | intro _)
  refine ret fun β w' hm => ?_
  obtain ⟨q1, q2, q3⟩ := Mem.own hm 0 rfl
  have hle := ae.dX (b := 10) (by omega) hl
  exact ⟨_, n, rfl, kK q1 (ja hle .i64), bY q2 rfl, (fun h => by cases h), hle, hm.below⟩
 ·obtain ⟨i, rfl⟩ : ∃ i, j = i + 1 := ⟨j - 1, by omega⟩
  obtain ⟨ad, rfl⟩ := aS.some hs (hnx (by omega))
  have r1 := dW hs (hgx i (by omega))
  have tV := tV i
  have hr2 : r < 2 := by rw [hD.r]; exact Nat.mod_lt _ (by omega)
  obtain ⟨hD1, hq⟩ := ae.Bd (by omega) (by omega) hD rfl
  have hset := ae.qp (b := 10) (n := n) (V := V) (j := i) (by omega) hq
  generalize ae.bu 10 i x = dx at *
  repeat' (first | exact ⟨⟩ | refine yG ?_ ?_ | (refine fH bF 0 (u := .int .i64 (((dx + r * 10) / 2 : Nat) : Int)) rfl rfl rfl rfl (fun β => by simp only [SV.den]; congr 1; omega) rfl rfl (by omega) ?_) | refine yO (aJ underlying70) ?_ | refine yN (j := i) underlying70 sizeOf3 ?_ | refine yO (v := .int .i64 (dx : Nat)) (dh (fun w => isAgg3 w) (fun w' hb β => by rw [Nat.mul_one]; exact r1 w' hb)) ?_ | refine yO (jv (by omega) (by omega)) ?_ | refine yO (qh (by omega) (by omega) (by simp only [uu]; omega)) ?_ | intro _)
  refine hI _ ⟨(i, ae.upd 10 V i ((dx + r * 10) / 2), (dx + r * 10) % 2), by dsimp only; omega, hD1⟩ (by dsimp only; omega) (by dsimp only; ((with_reducible show wk _ _); repeat' (first | exact trivial | exact au _ | refine eY ?_ | refine eqS ?_ | apply And.intro | exact yV | fail)); all_goals (rw [Nat.mul_one, ji, hset]; exact fun b x h => h))
theorem jD (a b : Option Addr) (ca cb x y : Nat) (w : World) (hx : ae.nd 10 x <= 40000000) (hy : ae.nd 10 y <= 40000000) (hs : aS a (nv .i64 10 x) w) (ht : aS b (nv .i64 10 y) w) :
  Calls Tryz.prog 179 #[.slice a (ae.nd 10 x) ca, .slice b (ae.nd 10 y) cb] w (iT .i64 10 (x * y) w) := by
 obtain ⟨i0, hi, hz0, hz1, hz2⟩ := info_parts jw
 have hu := underlying70
 have hgx := fun i (h : i < ae.nd 10 x) => eQ (k := .i64) h
 have D8 := fun i (h : i < ae.nd 10 y) => eQ (k := .i64) h
 have hnx := iJ (k := .i64) (b := 10) (x := x)
 have hny := iJ (k := .i64) (b := 10) (x := y)
 have tV := fun i => ae.dG (b := 10) (by omega) i x
 have hdy := fun i => ae.dG (b := 10) (by omega) i y
 have hxl := ae.dP (b := 10) (by omega) x
 have hyl := ae.dP (b := 10) (by omega) y
 have hTR := fun g (V : Nat) (w' : World) (hV : V < 10 ^ (ae.nd 10 x + ae.nd 10 y)) hs' => mJ (some ⟨g, 0, none⟩) (ae.nd 10 x + ae.nd 10 y) (ae.nd 10 x + ae.nd 10 y) V w' hV (Nat.le_refl _) (by omega) hs'
 have hend := fun i => ae.VC (b := 10) (x := x) (y := y) (i := i) (N := ae.nd 10 x + ae.nd 10 y) (by omega)
 refine yE func179 rfl results179 ntmps179 [] [100008] [.any (.slice a (ae.nd 10 x) ca), .any (.slice b (ae.nd 10 y) cb)] w ?_
 generalize ae.nd 10 x = n at *
 generalize ae.nd 10 y = m at *
 repeat' (first | exact ⟨⟩ | refine yG ?_ ?_ | (refine pM (m := n + m) rfl (by omega) rfl rfl hu hi hz0 hz1 rfl (by rw [hz2]; omega) (by unfold maxLen; omega) (fun g => ?_)) | refine yO (aJ underlying70) ?_ | intro _)
 rw [ug 10]
 refine loop bF rfl (T := {i : Nat // i <= n}) (fun t => ⟨[(0, .any (.slice a n ca)), (1, .any (.slice b m cb)), (5, .any (.slice (some ⟨g, 0, none⟩) (n + m) (n + m))), (18, .int .i64 (n : Nat)), (19, .int .i64 (t.1 : Nat))], [(0, true, .aK (dN 3 1 g (n + m) (n + m) (dC .i64 (ae.lI 10 (n + m) ((x % 10 ^ t.1) * y)))))], 1, 68⟩) (fun t => n - t.1) ⟨0, Nat.zero_le _⟩ 1000 [] [100008] (fun _ => by exact Nat.zero_le _) (by dsimp only; rw [Nat.pow_zero, Nat.mod_one, Nat.zero_mul]; ((with_reducible show wk _ _); repeat' (first | exact trivial | exact au _ | refine eY ?_ | refine eqS ?_ | apply And.intro | exact yV | fail)); all_goals exact fun b x h => h) (fun t I hI => ?_)
 obtain ⟨i, hin⟩ := t
 dsimp only at hin ⊢
 by_cases hlt : i < n
 ·obtain ⟨ad, rfl⟩ := aS.some hs (hnx (by omega))
  have r1 := dW hs (hgx i hlt)
  have Z8 := tV i
  have hend := hend i
  have hN : (x % 10 ^ (i + 1)) * y < 10 ^ (n + m) := by
   have h1 : x % 10 ^ (i + 1) <= x := Nat.mod_le _ _
   have h2 : (x % 10 ^ (i + 1)) * y <= x * y := Nat.mul_le_mul_right _ h1
   have h3 : x * y < 10 ^ (n + m) := by rw [Nat.pow_add]; exact Nat.mul_lt_mul'' hxl hyl
   omega
  have hyN : y < 10 ^ (n + m - i) := ae.dQ (by omega) hyl (by omega)
  rw [<- ae.SA]
  repeat' (first | exact ⟨⟩ | refine yG ?_ ?_ | refine yO (aJ underlying70) ?_ | intro _)
  refine loop bF rfl (T := {k : Nat // k <= m}) (fun t => ⟨[(0, .any (.slice (some ad) n ca)), (1, .any (.slice b m cb)), (5, .any (.slice (some ⟨g, 0, none⟩) (n + m) (n + m))), (6, .int .i64 (i : Nat)), (18, .int .i64 (n : Nat)), (19, .int .i64 (i : Nat)), (23, .int .i64 (m : Nat)), (24, .int .i64 (t.1 : Nat))], [(0, true, .aK (dN 3 1 g (n + m) (n + m) (dC .i64 (ae.Ue 10 x y i (n + m) t.1))))], 1, 68⟩) (fun t => m - t.1) ⟨0, Nat.zero_le _⟩ 1000 [] [100008] (fun _ => by exact Nat.zero_le _) yW (fun t I2 hI2 => ?_)
  obtain ⟨k, hkm⟩ := t
  dsimp only at hkm ⊢
  by_cases hlk : k < m
  ·obtain ⟨bd, rfl⟩ := aS.some ht (hny (by omega))
   have r2 := dW ht (D8 k hlk)
   have Z9 := hdy k
   have hset := ae.VE 10 x y i (n + m) k
   have r3 := iH (k := .i64) (ae.VD (b := 10) (x := x) (y := y) (i := i) (N := n + m) (k := k) (by omega))
   have hdv := ae.dG (b := 10) (by omega) (i + k) ((x % 10 ^ i) * y)
   generalize ae.bu 10 (i + k) ((x % 10 ^ i) * y) = dv at *
   generalize ae.bu 10 i x = dx at *
   generalize ae.bu 10 k y = dy at *
   have hp0 : 0 <= (dx : Int) * (dy : Int) := Int.mul_nonneg (by omega) (by omega)
   have hp1 : (dx : Int) * (dy : Int) <= 81 := by
    have : dx * dy <= 9 * 9 := Nat.mul_le_mul (by omega) (by omega)
    have h2 : ((dx * dy : Nat) : Int) <= 81 := by omega
    simpa using h2
   repeat' (first | exact ⟨⟩ | refine yG ?_ ?_ | (refine fH bF 0 (u := .int .i64 ((dv + dx * dy : Nat) : Int)) rfl rfl rfl rfl (fun β => by simp [SV.den]) rfl rfl (by omega) ?_) | refine yO (aJ underlying70) ?_ | refine yN (j := i) underlying70 sizeOf3 ?_ | refine yN (j := k) underlying70 sizeOf3 ?_ | refine yN (j := i + k) underlying70 sizeOf3 ?_ | refine yO (v := .int .i64 (dx : Nat)) (dh (fun w => isAgg3 w) (fun w' hb β => by rw [Nat.mul_one]; exact r1 w' hb)) ?_ | refine yO (v := .int .i64 (dy : Nat)) (dh (fun w => isAgg3 w) (fun w' hb β => by rw [Nat.mul_one]; exact r2 w' hb)) ?_ | refine yO (v := .int .i64 (dv : Nat)) (kW 0 (.int .i64 (dv : Nat)) (fun w => isAgg3 w) rfl (fun β => by rw [Nat.mul_one]; exact r3)) ?_ | intro _)
   all_goals (refine hI2 _ ⟨k + 1, by omega⟩ (by dsimp only; omega) (by ((with_reducible show wk _ _); repeat' (first | exact trivial | exact au _ | refine eY ?_ | refine eqS ?_ | apply And.intro | exact yV | fail)); all_goals (rw [Nat.mul_one, ji, hset]; exact fun b x h => h)))
  ·obtain rfl : k = m := by omega
   rw [hend]
   repeat' (first | exact ⟨⟩ | refine yG ?_ ?_ | intro _)
   refine loop bF rfl (T := {t : Nat × Nat × Nat // i <= t.1 /\ t.1 <= n + k /\ t.2.1 <= 10 /\ ae.Aq 10 x y i t.1 t.2.1 t.2.2}) (fun t => ⟨[(0, .any (.slice (some ad) n ca)), (1, .any (.slice b k cb)), (5, .any (.slice (some ⟨g, 0, none⟩) (n + k) (n + k))), (8, .int .i64 (t.1.2.1 : Nat)), (9, .int .i64 (t.1.1 : Nat)), (18, .int .i64 (n : Nat)), (19, .int .i64 (i : Nat))], [(0, true, .aK (dN 3 1 g (n + k) (n + k) (dC .i64 (ae.Uf 10 x y i (n + k) t.1.1 t.1.2.2))))], 1, 68⟩) (fun t => n + k - t.1.1) ⟨(i, 0, ((x % 10 ^ i) * y) % 10 ^ i), Nat.le_refl _, by dsimp only; omega, by dsimp only; omega, ae.Hf (by omega)⟩ 1000 [] [100008] (fun _ => by exact Nat.zero_le _) (by dsimp only; ((with_reducible show wk _ _); repeat' (first | exact trivial | exact au _ | refine eY ?_ | refine eqS ?_ | apply And.intro | exact yV | fail)); all_goals exact fun b x h => h) (fun t I3 Wy => ?_)
   obtain ⟨⟨q, c, S⟩, hq1, hq2, hc, hC⟩ := t
   dsimp only at hq1 hq2 hc hC ⊢
   by_cases hlq : q < n + k
   ·have hnx := ae.KE (b := 10) (by omega) hC hq1 rfl
    have hml := ae.Vf (x := x) (y := y) (i := i) (k := q)
    have r3 := iH (k := .i64) (ae.VG (b := 10) (x := x) (y := y) (i := i) (N := n + k) (k := q) (S := S) hlq)
    have hset := fun d (hd : d < 10) => ae.VH (b := 10) (x := x) (y := y) (i := i) (N := n + k) (k := q) (S := S) (d := d) (by omega) hC.lt hd
    generalize ae.FW 10 x y i q = mp at *
    repeat' (first | exact ⟨⟩ | refine yG ?_ ?_ | (refine fH bF 0 (u := .int .i64 (((mp + c) % 10 : Nat) : Int)) rfl rfl rfl rfl (fun β => by simp only [SV.den]; congr 1) rfl rfl (by omega) ?_) | refine yO (aJ underlying70) ?_ | refine yN (j := q) underlying70 sizeOf3 ?_ | refine yO (v := .int .i64 (mp : Nat)) (kW 0 (.int .i64 (mp : Nat)) (fun w => isAgg3 w) rfl (fun β => by rw [Nat.mul_one]; exact r3)) ?_ | refine yO (jv (by omega) (by omega)) ?_ | refine yO (qh (by omega) (by omega) (by simp only [uu]; omega)) ?_ | intro _)
    refine Wy _ ⟨(q + 1, (mp + c) / 10, S + (mp + c) % 10 * 10 ^ q), by dsimp only; omega, by dsimp only; omega, by dsimp only; omega, hnx⟩ (by dsimp only; omega) (by dsimp only; ((with_reducible show wk _ _); repeat' (first | exact trivial | exact au _ | refine eY ?_ | refine eqS ?_ | apply And.intro | exact yV | fail)); all_goals (rw [Nat.mul_one, ji, hset _ (Nat.mod_lt _ (by omega))]; exact fun b x h => h))
   ·obtain rfl : q = n + k := by omega
    obtain ⟨rfl, rfl⟩ := ae.Og (by omega) hC hN (by omega) hyN
    rw [ae.VF]
    repeat' (first | exact ⟨⟩ | refine yG ?_ ?_ | refine yO (aJ underlying70) ?_ | intro _)
    refine hI _ ⟨i + 1, by omega⟩ (by dsimp only; omega) (by dsimp only; ((with_reducible show wk _ _); repeat' (first | exact trivial | exact au _ | refine eY ?_ | refine eqS ?_ | apply And.intro | exact yV | fail)); all_goals exact fun b x h => h)
 ·obtain rfl : i = n := by omega
  have hl : x * y < 10 ^ (i + m) := by rw [Nat.pow_add]; exact Nat.mul_lt_mul'' hxl hyl
  rw [Nat.mod_eq_of_lt hxl]
  repeat' (first | exact ⟨⟩ | refine yG ?_ ?_ | refine yK (.any (.slice (some ⟨g, 0, none⟩) (ae.nd 10 (x * y)) (i + m))) (fun β w hm => hTR g (x * y) w hl (Mem.own hm 0 rfl).1) ?_ | intro _)
  refine ret fun β w' hm => ?_
  obtain ⟨q1, q2, q3⟩ := Mem.own hm 0 rfl
  have hle := ae.dX (b := 10) (by omega) hl
  exact ⟨_, i + m, rfl, kK q1 (ja hle .i64), bY q2 rfl, (fun h => by cases h), hle, hm.below⟩
end
section
open Go.RowKit
open Sym
attribute [local irreducible] Calls Sym.bM ae.nd ae.bu ae.upd
theorem ae.MQ {x y : Nat} : 0 <= ae.rq x y ↔ y <= x := by
 unfold ae.rq
 split
 ·constructor <;> intro h <;> omega
 ·split <;> constructor <;> intro h <;> omega
theorem ae.Tv {n V i : Nat} (h : ae.bu 10 i V = 0) : (ae.lI 10 n V).set i 0 = ae.lI 10 n V := by
 rw [ae.qp (by omega) (by omega)]
 have e := ae.Gv 10 V i 0
 rw [h] at e
 congr 1; omega
structure RvI (x y n : Nat) (t : Zl) : Prop where
 hj : t.j <= n
 d : ae.G5 10 x y t.j t.V t.r
 hn : t.ra = none -> t.rc = 0
 hc : ae.nd 10 t.r <= t.rc
structure RwT where
 t : Nat
 ra : Option Addr
 rc : Nat
theorem oG (a b : Option Addr) (ca cb x y : Nat) (w : World) (hw0 : 0 < w.heap.size) (hx : ae.nd 10 x <= 40000000) (hy : ae.nd 10 y <= 40000000) (hy0 : 0 < y) (hs : aS a (nv .i64 10 x) w) (ht : aS b (nv .i64 10 y) w) :
  Calls Tryz.prog 156 #[.slice a (ae.nd 10 x) ca, .slice b (ae.nd 10 y) cb] w (ET .i64 10 (x / y) (x % y) w) := by
 obtain ⟨i0, hi, hz0, hz1, hz2⟩ := info_parts jw
 have hu := underlying70
 have hsz := fun w => sizeOf3 w
 have hzv := fun w => zeroValue3 w
 have hgx := fun i (h : i < ae.nd 10 x) => eQ (k := .i64) h
 have hnx := iJ (k := .i64) (b := 10) (x := x)
 have tV := fun i => ae.dG (b := 10) (by omega) i x
 have hxl := ae.dP (b := 10) (by omega) x
 have hTR := fun g (V : Nat) (w' : World) (hV : V < 10 ^ (ae.nd 10 x)) hs' => mJ (some ⟨g, 0, none⟩) (ae.nd 10 x) (ae.nd 10 x) V w' hV (Nat.le_refl _) (by omega) hs'
 have hCM := fun (a' : Option Addr) (c' R : Nat) (w' : World) (hR : ae.nd 10 R <= 100000000) hb h => l7 a' b c' cb R y w' hR (by omega) h (aS.below ht hb)
 have Zp := fun (a' : Option Addr) (c' R : Nat) (w' : World) (hR : ae.nd 10 R <= 100000000) (hle : y <= R) hb h => uh a' b c' cb R y w' hR (by omega) hle h (aS.below ht hb)
 refine yE func156 rfl results156 ntmps156 [] [] [.any (.slice a (ae.nd 10 x) ca), .any (.slice b (ae.nd 10 y) cb)] w ?_
 generalize ae.nd 10 x = n at *
 generalize ZT : ae.nd 10 y = m at *
 repeat' (first | exact ⟨⟩ | refine yG ?_ ?_ | (refine pM (m := n) rfl (by omega) rfl rfl hu hi hz0 hz1 rfl (by rw [hz2]; omega) (by unfold maxLen; omega) (fun g => ?_)) | refine yO (aJ underlying70) ?_ | intro _)
 rw [ug 10]
 refine zF hw0 ?_
 refine loop bF rfl (T := {t : Zl // RvI x y n t}) (fun t => ⟨[(0, .any (.slice a n ca)), (1, .any (.slice b m cb)), (6, .any (.slice (some ⟨g, 0, none⟩) n n)), (7, .any (.slice t.1.ra (ae.nd 10 t.1.r) t.1.rc)), (8, .int .i64 ((t.1.j : Nat) - 1 : Int))], [(0, true, .aK (dN 3 1 g n n (dC .i64 (ae.lI 10 n t.1.V)))), (1, false, .aK (bV w.heap.size t.1.ra (nv .i64 10 t.1.r)))], 2, 43⟩) (fun t => t.1.j) ⟨⟨n, 0, 0, none, 0⟩, ⟨Nat.le_refl _, ae.xI hxl, fun _ => rfl, by rw [ae.aT]; exact Nat.le_refl _⟩⟩ 1000 [] [] (fun _ => by exact Nat.zero_le _) (by dsimp only; rw [NJ, ae.aT]; ((with_reducible show wk _ _); repeat' (first | exact trivial | exact au _ | refine eY ?_ | refine eqS ?_ | apply And.intro | exact yV | fail)); all_goals exact fun b x h => h) (fun t I hI => ?_)
 obtain ⟨⟨j, V, r, ra, rc⟩, hj, hD, hn, hc⟩ := t
 dsimp only at hj hD hn hc ⊢
 by_cases hj0 : j = 0
 ·subst hj0
  obtain ⟨rfl, rfl⟩ := ae.Fh hD
  have hl := ae.div_lt (by omega) hD hxl
  repeat' (first | exact ⟨⟩ | refine yG ?_ ?_ | refine yK (.any (.slice (some ⟨g, 0, none⟩) (ae.nd 10 (x / y)) n)) (fun β w hm => hTR g (x / y) w hl (Mem.own hm 0 rfl).1) ?_ | intro _)
  refine ret fun β w' hm => ?_
  obtain ⟨q1, q2, q3⟩ := Mem.own hm 0 rfl
  have hle := ae.dX (b := 10) (by omega) hl
  exact ⟨_, n, ra, rc, rfl, ⟨kK q1 (ja hle .i64), bY q2 rfl, (fun h => by cases h), hle⟩, ⟨Mem.dS hm 1 rfl, Mem.di hm 1 rfl rfl, hn, hc⟩, hm.below⟩
 ·obtain ⟨i, rfl⟩ : ∃ i, j = i + 1 := ⟨j - 1, by omega⟩
  obtain ⟨ad, rfl⟩ := aS.some hs (hnx (by omega))
  have r1 := dW hs (hgx i (by omega))
  have tV := tV i
  have hry : r < y := by rw [hD.r]; exact Nat.mod_lt _ hy0
  obtain ⟨hD1, hq⟩ := ae.Bd (by omega) hy0 hD rfl
  have hrn := ae.dD (b := 10) (by omega) (Nat.le_of_lt hry)
  rw [ZT] at hrn
  have hRl := ae.MV tV (ae.dP (b := 10) (by omega) r)
  have hcons := ae.MR (b := 10) (r := r) (by omega) tV (ae.nd 10 r)
  have hset := fun d (hd : d < 10) => ae.qp (b := 10) (n := n) (V := V) (j := i) (d := d) (by omega) hd
  have hv0 : ae.bu 10 i V = 0 := by rw [hD.v]; exact ae.zI (by omega)
  have hz := ae.Tv (n := n) hv0
  have hnl := jT .i64 10 r
  have hrow : ([.int .i64 ((ae.bu 10 i x : Nat) : Int)] : List Value) ++ nv .i64 10 r = dC .i64 (ae.lI 10 (1 + ae.nd 10 r) (ae.bu 10 i x + r * 10)) := by rw [Nat.add_comm 1, hcons]; rfl
  generalize ae.bu 10 i x = dx at *
  generalize hR : dx + r * 10 = R at *
  have hRn := ae.dX (b := 10) (by omega) hRl
  have hmod : R % y = R - y * (R / y) := by have := Nat.div_add_mod R y; omega
  rw [hmod] at hD1
  have hT2 := fun g (c : Nat) hc (w' : World) hs' => mJ (some ⟨g, 0, none⟩) (1 + ae.nd 10 r) c R w' (by rw [Nat.add_comm]; exact hRl) hc (by omega) hs'
  have hpre := ja (b := 10) (x := R) (by omega : ae.nd 10 R <= 1 + ae.nd 10 r) .i64
  have hmn := fun z (h : z <= R) => ae.dD (b := 10) (by omega) h
  repeat' (first | exact ⟨⟩ | refine yG ?_ ?_ | refine yK (.any (.slice (some ⟨g2, 0, none⟩) (ae.nd 10 R) cap2)) (fun β w hm => hT2 g2 cap2 (Mem.own hm 2 rfl).2.2 w (by have := (Mem.own hm 2 rfl).1; rw [hrow] at this; exact this)) ?_ | (refine aI (sz := 1) rfl rfl rfl (xs := [.int .i64 (dx : Nat)]) (fun β => rfl) rfl (by omega) (by omega) hu hsz hzv (fun g1 => ?_)) | (refine rY (sz := 1) 2 (ys := nv .i64 10 r) rfl hu hi hz0 hz1 rfl (by omega) rfl rfl rfl hn (by rw [Nat.mul_one]; exact hnl) (fun β w' hm => Mem.dS hm 1 rfl) (by unfold maxLen; omega) (by rw [hz2]; omega) (yM _ _) (by kernel_rfl) (Nat.zero_le _) (fun g2 cap2 => ?_)) | refine yO (aJ underlying70) ?_ | refine yN (j := i) underlying70 sizeOf3 ?_ | refine yO (v := .int .i64 (dx : Nat)) (dh (fun w => isAgg3 w) (fun w' hb β => by rw [Nat.mul_one]; exact r1 w' hb)) ?_ | intro _)
  rw [hrow]
  refine Le 2 (nv .i64 10 R) rfl hpre (fun hcap2 => ?_)
  refine loop bF rfl (T := {t : RwT // t.t <= R / y /\ (t.ra = none -> t.rc = 0) /\ ae.nd 10 (R - y * t.t) <= t.rc}) (fun t => ⟨[(0, .any (.slice (some ad) n ca)), (1, .any (.slice b m cb)), (6, .any (.slice (some ⟨g, 0, none⟩) n n)), (7, .any (.slice t.1.ra (ae.nd 10 (R - y * t.1.t)) t.1.rc)), (8, .int .i64 (((i + 1 : Nat) : Int) - 1))], [(0, true, .aK (dN 3 1 g n n (dC .i64 ((ae.lI 10 n V).set i t.1.t)))), (2, false, .aK (bV w.heap.size t.1.ra (nv .i64 10 (R - y * t.1.t))))], 3, 43⟩) (fun t => R / y - t.1.t) ⟨⟨0, some ⟨g2, 0, none⟩, cap2⟩, Nat.zero_le _, (fun h => by cases h), by dsimp only; rw [Nat.mul_zero, Nat.sub_zero]; omega⟩ 1000 [] [] (fun _ => by exact Nat.zero_le _) (by dsimp only; rw [hz, Nat.mul_zero, Nat.sub_zero]; ((with_reducible show wk _ _); repeat' (first | exact trivial | exact au _ | refine eY ?_ | refine eqS ?_ | apply And.intro | exact yV | fail)); all_goals exact fun b x h => h) (fun t I2 hI2 => ?_)
  obtain ⟨⟨t, ra2, rc2⟩, ht1, hn2, hc2⟩ := t
  dsimp only at ht1 hn2 hc2 ⊢
  have hyt : y * t <= R := Nat.le_trans (Nat.mul_le_mul_left _ ht1) (Nat.mul_div_le R y)
  have hcm := ae.MQ (x := R - y * t) (y := y)
  have hnr := hmn (R - y * t) (by omega)
  have hCM := fun w' => hCM ra2 rc2 (R - y * t) w' (by omega)
  by_cases hlt : y <= R - y * t
  ·have ht2 : t + 1 <= R / y := by rw [Nat.le_div_iff_mul_le hy0, Nat.mul_comm, Nat.mul_add]; omega
   have Zp := fun w' => Zp ra2 rc2 (R - y * t) w' (by omega) hlt
   have hsub : R - y * t - y = R - y * (t + 1) := by rw [Nat.mul_add]; omega
   rw [hsub] at Zp
   generalize ae.rq (R - y * t) y = cv at *
   repeat' (first | exact ⟨⟩ | refine yG ?_ ?_ | refine yK (.int .i64 cv) (fun β w hm => hCM w hm.below (Mem.dS hm 2 rfl)) ?_ | (refine aH .i64 10 (R - y * (t + 1)) hw0 (by kernel_rfl) rfl (fun β w' hm => Zp w' hm.below (Mem.dS hm 2 rfl)) (fun ua uca h1 h2 h3 => ?_)) | (refine fH bF 0 (u := .int .i64 ((t + 1 : Nat) : Int)) rfl rfl rfl rfl (fun β => by simp [SV.den]) rfl rfl (by omega) ?_) | refine yO (aJ underlying70) ?_ | refine yN (j := i) underlying70 sizeOf3 ?_ | refine yO (v := .int .i64 (t : Nat)) (kW 0 (.int .i64 (t : Nat)) (fun w => isAgg3 w) rfl (fun β => by rw [Nat.mul_one]; refine iH ?_; rw [List.getElem?_set_self (by rw [ae.nY]; omega)])) ?_ | intro _)
   refine ai 2 3 rfl rfl rfl (Nat.zero_le _) (by kernel_rfl) ?_
   refine hI2 _ ⟨⟨t + 1, ua, uca⟩, ht2, h1, h2⟩ (by dsimp only; omega) (by dsimp only; ((with_reducible show wk _ _); repeat' (first | exact trivial | exact au _ | refine eY ?_ | refine eqS ?_ | apply And.intro | exact yV | fail)); all_goals first | exact fun b x h => h | (rw [Nat.mul_one, ji, List.set_set]; exact fun b x h => h))
  ·have hte : t = R / y := by
    refine Nat.le_antisymm ht1 (Nat.le_of_lt_succ ?_)
    rw [Nat.div_lt_iff_lt_mul hy0, Nat.succ_mul, Nat.mul_comm]; omega
   subst hte
   rw [hset _ hq]
   generalize ae.rq (R - y * (R / y)) y = cv at *
   repeat' (first | exact ⟨⟩ | refine yG ?_ ?_ | refine yK (.int .i64 cv) (fun β w hm => hCM w hm.below (Mem.dS hm 2 rfl)) ?_ | intro _)
   refine ai 1 2 rfl rfl rfl (Nat.zero_le _) (by kernel_rfl) ?_
   refine hI _ ⟨⟨i, ae.upd 10 V i (R / y), R - y * (R / y), ra2, rc2⟩, ⟨by dsimp only; omega, hD1, hn2, hc2⟩⟩ (by dsimp only; omega) (by dsimp only; ((with_reducible show wk _ _); repeat' (first | exact trivial | exact au _ | refine eY ?_ | refine eqS ?_ | apply And.intro | exact yV | fail)); all_goals exact fun b x h => h)
theorem ae.zh : ∀ (s : List UInt8) (n : Nat), s.all ae.aY = true -> Lib.decFrom n s = some (ae.Aa n s)
 | [], _, _ => by rw [ae.nO]; rfl
 | c :: r, n, h => by
   simp only [List.all_cons, Bool.and_eq_true] at h
   have hc := h.1
   unfold ae.aY at hc
   simp only [Bool.and_eq_true, decide_eq_true_eq, UInt8.le_iff_toNat_le] at hc
   have hv : Lib.digitVal c = some (c.toNat - 48) := by
    unfold Lib.digitVal; rw [if_pos (by simpa using hc)]
   rw [Lib.decFrom, hv]
   dsimp only
   rw [ae.zh r _ h.2, ae.jK]
theorem ae.Qq (s : List UInt8) (h0 : s ≠ []) (h : s.all ae.aY = true) : Lib.atoi s = some (ae.ax s : Int) := by
 cases s with
 | nil => exact absurd rfl h0
 | cons c r =>
   have hc : ae.aY c = true := by simp only [List.all_cons, Bool.and_eq_true] at h; exact h.1
   have hc := ae.jR.1 hc
   have h45 : (c == 45) = false := by rw [beq_eq_false_iff_ne]; intro e; rw [e] at hc; simp at hc
   have h43 : (c == 43) = false := by rw [beq_eq_false_iff_ne]; intro e; rw [e] at hc; simp at hc
   have e : Lib.decNat (c :: r) = some (ae.ax (c :: r)) := by
    unfold Lib.decNat; rw [ae.zh _ _ h]; rfl
   simp [Lib.atoi, h45, h43, e]
theorem qX (s : List UInt8) (w : World) (h0 : s ≠ []) (hl : s.length <= 18) (h : s.all ae.aY = true) : QC 177 #[.string (ah s)] w (.tuple #[.int .i64 (ae.ax s : Int), .nilIface]) := by
 refine (Tryz.strconv_Atoi (ah s) _ (by rw [bW]; exact hl) (ae.Qq s h0 h) w).mono ?_
 rintro e w' ⟨h, t, rfl⟩
 exact ⟨h, Lib.bytesWorld_below _ _ _⟩
abbrev y5 (fr : List (Nat × SV)) (d n i : Nat) (g cap : Nat) (xs : List Value) : St := match i with
 | 0 => ⟨(d, .any (.slice none 0 0)) :: fr, [], 0, n⟩
 | i + 1 => ⟨(d, .any (.slice (some ⟨g, 0, none⟩) (i + 1) cap)) :: fr, [(1, true, .aK (dN 161 1 g (i + 1) cap xs))], 2, n⟩
theorem Az {p : UInt8 -> Bool} {s : List UInt8} (h : s.all p = true) (n : Nat) : (s.drop n).all p = true := by
 rw [List.all_eq_true] at h ⊢
 exact fun x hx => h x (List.mem_of_mem_drop hx)
theorem AA {p : UInt8 -> Bool} {s : List UInt8} (h : s.all p = true) (n : Nat) : (s.take n).all p = true := by
 rw [List.all_eq_true] at h ⊢
 exact fun x hx => h x (List.mem_of_mem_take hx)
structure ZL where
 i : Nat
 m : Nat
 g : Nat
 cap : Nat
theorem parse_any (s : List UInt8) (w : World) (hs : s.length <= 1000000) (hd : s.all ae.aY = true) : Calls Tryz.prog 166 #[.string (ah s)] w (iT .u32 1000000000 (ae.ax s) w) := by
 obtain ⟨i0, hi, hz0, hz1, hz2⟩ := info_parts kU
 have hu := underlying137
 have hsz := fun w => sizeOf161 w
 have hzv := fun w => zeroValue161 w
 have e9 : (1000000000 : Nat) = 10 ^ 9 := by decide
 have ZX : ∀ m i, s.length - m <= 9 * i -> ae.ax (s.drop m) < 1000000000 ^ i := fun m i h => by
  have h1 := ae.jW _ (Az hd m)
  rw [List.length_drop] at h1
  rw [e9, <- Nat.pow_mul]
  exact zl h1 (Nat.pow_le_pow_right (by omega) h)
 refine yE func166 rfl results166 ntmps166 [] [] [.str s] w ?_
 repeat' (first | exact ⟨⟩ | refine yG ?_ ?_ | intro _)
 refine loop bF rfl (T := {t : ZL // t.m <= s.length /\ s.length - t.m <= 9 * t.i /\ (0 < t.m -> s.length - t.m = 9 * t.i) /\ t.i <= s.length}) (fun t => y5 [(0, .str (s.take t.1.m))] 3 31 t.1.i t.1.g t.1.cap (dC .u32 (ae.lI 1000000000 t.1.i (ae.ax (s.drop t.1.m))))) (fun t => t.1.m) ⟨⟨0, s.length, 0, 0⟩, Nat.le_refl _, by dsimp only; omega, fun _ => by dsimp only; omega, Nat.zero_le _⟩ 1000 [] [] (fun t => by exact Nat.zero_le _) (by dsimp only [y5]; rw [List.take_of_length_le (Nat.le_refl _)]; ((with_reducible show wk _ _); repeat' (first | exact trivial | exact au _ | refine eY ?_ | refine eqS ?_ | apply And.intro | exact yV | fail))) (fun t I hI => ?_)
 obtain ⟨⟨i, m, g, cap⟩, hm, hl1, hl2, hil⟩ := t
 dsimp only at hm hl1 hl2 hil ⊢
 have hV := ZX m i hl1
 have htl : (s.take m).length = m := by rw [List.length_take]; omega
 by_cases hm0 : 0 < m
 ·have hl2 := hl2 hm0
  obtain ⟨q, hq⟩ : ∃ q, q = m - 9 := ⟨_, rfl⟩
  have hck : ((s.take m).drop q).length = m - q := by rw [List.length_drop, htl]
  have hcd : ((s.take m).drop q).all ae.aY = true := Az (AA hd m) q
  have hcn := ae.jW _ hcd
  have hcb : ae.ax ((s.take m).drop q) < 1000000000 := by
   rw [hck] at hcn
   exact zl hcn (by rw [e9]; exact Nat.pow_le_pow_right (by omega) (by omega))
  have hA := fun w => qX ((s.take m).drop q) w (fun e => by rw [e] at hck; simp at hck; omega) (by omega) hcd
  have Zu : ae.ax (s.drop q) = ae.ax (s.drop m) + ae.ax ((s.take m).drop q) * 1000000000 ^ i := by
   have e : s.drop q = (s.take m).drop q ++ s.drop m := by
    have h1 : s = s.take m ++ s.drop m := (List.take_append_drop m s).symm
    conv => lhs; rw [h1]
    rw [List.drop_append_of_le_length (by rw [htl]; omega)]
   rw [e, ae.val_append, List.length_drop, hl2, e9, <- Nat.pow_mul, Nat.add_comm]
  have hrow := fun (v : Int) (hv : v = ((ae.ax ((s.take m).drop q) : Nat) : Int)) => ae.sH (k := .u32) (b := 1000000000) (i := i) (S := ae.ax (s.drop m)) (by omega) hV hcb hv
  rw [<- Zu] at hrow
  have htt : (s.take m).take q = s.take q := by rw [List.take_take, Nat.min_eq_left (by omega)]
  generalize ae.ax ((s.take m).drop q) = cv at *
  cases i with
  | zero =>
    dsimp only [y5]
    repeat' (first | exact ⟨⟩ | refine yG ?_ ?_ | refine yA (.bg [.int .i64 (cv : Nat), .any .nilIface]) (fun _ => hA) ?_ | (refine aI (sz := 1) rfl rfl rfl (xs := [.int .u32 (cv : Nat)]) (fun β => rfl) rfl (by omega) (by omega) hu hsz hzv (fun g1 => ?_)) | (refine iK (sz := 1) 0 rfl hu hi hz0 hz1 rfl (by omega) rfl rfl rfl (by unfold maxLen; omega) (by rw [hz2]; omega) (by simp [Value.oneCell']) (by omega) (fun g2 cap2 => ?_)) | ((with_reducible show ∃ _, _); first | (refine ⟨q, by rw [htl]; omega, by rw [htl]; omega, ?_⟩)) | intro _)
    refine hI _ ⟨⟨0 + 1, q, g2, cap2⟩, by dsimp only; omega, by dsimp only; omega, fun h => by dsimp only at h ⊢; omega, by dsimp only; omega⟩ (by dsimp only; omega) (by dsimp only [y5]; rw [<- hrow _ rfl, <- htt]; ((with_reducible show wk _ _); repeat' (first | exact trivial | exact au _ | refine eY ?_ | refine eqS ?_ | apply And.intro | exact yV | fail)); all_goals (exact fun b x h => h))
  | succ i =>
    dsimp only [y5]
    repeat' (first | exact ⟨⟩ | refine yG ?_ ?_ | refine yA (.bg [.int .i64 (cv : Nat), .any .nilIface]) (fun _ => hA) ?_ | (refine aI (sz := 1) rfl rfl rfl (xs := [.int .u32 (cv : Nat)]) (fun β => rfl) rfl (by omega) (by omega) hu hsz hzv (fun g1 => ?_)) | (refine fO (sz := 1) 1 2 rfl hu hi hz0 hz1 rfl (by omega) rfl rfl rfl rfl (by unfold maxLen; omega) (by rw [hz2]; omega) (by simp [Value.oneCell']) (by kernel_rfl) (Nat.zero_le _) (fun g2 cap2 => ?_)) | ((with_reducible show ∃ _, _); first | (refine ⟨q, by rw [htl]; omega, by rw [htl]; omega, ?_⟩)) | intro _)
    refine hI _ ⟨⟨i + 1 + 1, q, g2, cap2⟩, by dsimp only; omega, by dsimp only; omega, fun h => by dsimp only at h ⊢; omega, by dsimp only; omega⟩ (by dsimp only; omega) (by dsimp only [y5]; rw [<- hrow _ rfl, <- htt]; ((with_reducible show wk _ _); repeat' (first | exact trivial | exact au _ | refine eY ?_ | refine eqS ?_ | apply And.intro | exact yV | fail)); all_goals (exact fun b x h => h))
 ·obtain rfl : m = 0 := by omega
  simp only [List.drop_zero] at hV ⊢
  have hle := ae.dX (b := 1000000000) (by omega) hV
  have hTR := fun a (cap : Nat) (w' : World) hc hs' => lu a i cap (ae.ax s) w' hV hc (by omega) hs'
  cases i with
  | zero =>
    dsimp only [y5]
    have h0 : ae.nd 1000000000 (ae.ax s) = 0 := by omega
    have e : nv .u32 1000000000 (ae.ax s) = [] := List.length_eq_zero_iff.1 (by rw [jT, h0])
    have hT := fun w' => hTR none 0 w' (Nat.le_refl _) (qJ _ _)
    rw [h0] at hT
    repeat' (first | exact ⟨⟩ | refine yG ?_ ?_ | refine yA (.any (.slice none 0 0)) (fun _ => hT) ?_ | intro _)
    refine ret fun β w' hm => ?_
    exact ⟨none, 0, by rw [h0]; rfl, by rw [e]; exact qJ _ _, fun h => absurd e h, fun _ => rfl, by rw [h0]; exact Nat.le_refl _, hm.below⟩
  | succ i =>
    dsimp only [y5]
    repeat' (first | exact ⟨⟩ | refine yG ?_ ?_ | refine yK (.any (.slice (some ⟨g, 0, none⟩) (ae.nd 1000000000 (ae.ax s)) cap)) (fun β w hm => hTR (some ⟨g, 0, none⟩) cap w (Mem.own hm 1 rfl).2.2 (Mem.own hm 1 rfl).1) ?_ | intro _)
    refine ret fun β w' hm => ?_
    obtain ⟨q1, q2, q3⟩ := Mem.own hm 1 rfl
    exact ⟨_, cap, rfl, kK q1 (ja hle .u32), bY q2 rfl, (fun h => by cases h), Nat.le_trans hle q3, hm.below⟩
end
end Go.Proofs.YtdkhkfdenlabaaaGreatDoor
namespace Go.Proofs
end Go.Proofs
namespace Go.Proofs.YtdkhkfdenlabaaaGreatDoor
open Go.Proofs.Tryz
open Go.RowKit
open Sym
attribute [local irreducible] Calls Sym.bM ae.nd ae.bu ae.upd
theorem dropWhile_nil {p : UInt8 -> Bool} : ∀ l : List UInt8, l.dropWhile p = [] ↔ l.all p = true
 | [] => by simp
 | c :: r => by
   by_cases h : p c = true
   ·rw [List.dropWhile_cons_of_pos h, dropWhile_nil r, List.all_cons, h, Bool.true_and]
   ·rw [List.dropWhile_cons_of_neg h]; simp [h]
def xH : List UInt8 := [48, 49, 50, 51, 52, 53, 54, 55, 56, 57]
theorem vX (c : UInt8) : xH.contains c = ae.aY c := by
 have key : ∀ k : Fin 256, xH.contains (UInt8.ofNat k.val) = ae.aY (UInt8.ofNat k.val) := by decide
 have hc : UInt8.ofNat c.toNat = c := by simp
 have := key ⟨c.toNat, c.toNat_lt⟩
 dsimp only at this
 rw [hc] at this
 exact this
theorem uD {p : UInt8 -> Bool} : ∀ l : List UInt8, (l.dropWhile p).all p = l.all p
 | [] => rfl
 | c :: r => by
   by_cases h : p c = true
   ·rw [List.dropWhile_cons_of_pos h, uD r, List.all_cons, h, Bool.true_and]
   ·rw [List.dropWhile_cons_of_neg h]
theorem TG (s : List UInt8) : Lib.trimS s xH = [] ↔ s.all ae.aY = true := by
 have hp : (fun c => xH.contains c) = ae.aY := funext vX
 unfold Lib.trimS Lib.trimRightS Lib.trimLeftS
 rw [hp, dropWhile_nil, List.all_reverse, uD, List.all_reverse]
theorem P8 (s : List UInt8) (w : World) (hs : s.length <= 9223372036854775807) : QC 84 #[.string (ah s), .string (ah xH)] w (.string (ah (Lib.trimS s xH))) := by
 have := Any.strings_Trim_laid Tryz.lays160 (by kernel_rfl) (ah s) (ah xH) w (by rw [bW]; exact hs) (by decide) (ascii_of_all (by decide))
 exact this
theorem Ba (s : List UInt8) (w : World) (hs : s.length <= 9223372036854775807) : QC 185 #[.string (ah s)] w (.bool (ae.dw s)) := by
 have HT := fun w => P8 s w hs
 have ht := TG s
 unfold ae.dw
 generalize Lib.trimS s xH = u at *
 refine yE func185 rfl results185 ntmps185 [] [] [.str s] w ?_
 cases s with
 | nil =>
   repeat' (first | exact ⟨⟩ | refine yG ?_ ?_ | intro _)
   all_goals rfl
 | cons c r =>
   have e0 : (c :: r).getD 0 0 = c := rfl
   by_cases h48 : c = 48
   ·subst h48
    have e1 : (((48 : UInt8) :: r).getD 0 0).toNat = 48 := rfl
    by_cases hr : 1 < ((48 : UInt8) :: r).length
    ·repeat' (first | exact ⟨⟩ | refine yG ?_ ?_ | ((with_reducible show ∃ _, _); first | (refine ⟨0, rfl, by simp, ?_⟩)) | intro _)
     all_goals first | (exfalso; omega) | (exfalso; simp_all; done) | skip
     all_goals (simp only [SV.den]; congr 1; simp only [List.isEmpty_cons, e0]; rw [decide_eq_false (by omega)]; rfl)
    ·repeat' (first | exact ⟨⟩ | refine yG ?_ ?_ | refine yA (.str u) (fun _ => HT) ?_ | ((with_reducible show ∃ _, _); first | (refine ⟨0, rfl, by simp, ?_⟩)) | intro _)
     all_goals first | (exfalso; omega) | (exfalso; simp_all; done) | skip
     all_goals (simp only [SV.den]; congr 1; simp only [List.isEmpty_cons, e0]; rw [show decide (((48 : UInt8) :: r).length <= 1) = true from decide_eq_true (by omega), Bool.eq_iff_iff]; simpa using ht)
   ·have hn : ¬ c.toNat = 48 := fun e => h48 (UInt8.toNat_inj.1 e)
    have e1 : ((c :: r).getD 0 0).toNat = c.toNat := rfl
    repeat' (first | exact ⟨⟩ | refine yG ?_ ?_ | refine yA (.str u) (fun _ => HT) ?_ | ((with_reducible show ∃ _, _); first | (refine ⟨0, rfl, by simp, ?_⟩)) | intro _)
    all_goals first | (exfalso; omega) | (exfalso; simp_all; done) | skip
    all_goals (simp only [SV.den]; congr 1; simp only [List.isEmpty_cons, e0]; rw [bne_iff_ne.2 h48, Bool.eq_iff_iff]; simpa using ht)
theorem zg (s : List UInt8) : Lib.trimPrefix s [45] = (ae.aO s).1 /\ Lib.hasPrefix s [45] = (ae.aO s).2 := by
 cases s with
 | nil => exact ⟨rfl, rfl⟩
 | cons c r =>
   by_cases h : c = 45
   ·subst h; simp [Lib.trimPrefix, Lib.hasPrefix, ae.aO]
   ·have h' : ¬ 45 = c := fun e => h e.symm
    simp [Lib.trimPrefix, Lib.hasPrefix, ae.aO, h, List.isPrefixOf, beq_eq_false_iff_ne.2 h']
theorem mX (s : List UInt8) (w : World) : QC 54 #[.string (ah s), .string (ah [45])] w (.tuple #[.string (ah (ae.aO s).1), .bool (ae.aO s).2]) := by
 refine (Tryz.strings_CutPrefix (ah s) (ah [45]) w).mono ?_
 rintro e w' ⟨h, rfl⟩
 refine ⟨?_, Below.refl _ _⟩
 rw [h, show (ah s).data.toList = s from rfl, show (ah [45]).data.toList = [45] from rfl, (zg s).1, (zg s).2]; rfl
theorem iP (s : List UInt8) : (ae.aO s).1.length <= s.length := by
 unfold ae.aO; split <;> simp
def ae.jr (f : ae.Fr) : ae.Num := if ae.bQ f = 0 then ae.az f else ⟨false, 0, 0⟩
theorem ae.yj {f : ae.Fr} {e : Int} (h : ae.bQ f = e) (he : e ≠ 0) : ae.jr f = ⟨false, 0, 0⟩ := if_neg (by rw [h]; exact he)
theorem ae.qG {b : Nat} {s : List UInt8} (hb : 10 <= b) (h : s.all ae.aY = true) : ae.nd b (ae.ax s) <= s.length :=
 ae.dX (by omega) (zl (ae.jW s h) (Nat.pow_le_pow_left hb _))
theorem iZ {k : IntKind} {b : Nat} {x : ae.Num} {err : Int} {w w' : World} (hx : x = ⟨false, 0, 0⟩) (hb : BW w w') : iC k b x err w (.returned (.tuple #[.agg #[.bool false, .slice none 0 0, .slice none 0 0], .int .i64 err])) w' := by
 subst hx
 exact ⟨⟨false, 0, 0, none, 0, none, 0⟩, by simp [bI.val, ae.aT], rfl, dM, sW, hb⟩
theorem pO (f : ae.Fr) (w : World) (hw0 : 0 < w.heap.size) (h1 : f.1.length <= 9223372036854775807) (h2 : f.2.length <= 9223372036854775807) :
  Calls Tryz.prog 135 #[.agg #[.string (ah f.1), .string (ah f.2)]] w (iC .u32 1000000000 (ae.jr f) (ae.bQ f) w) := by
 obtain ⟨f1, f2⟩ := f
 dsimp only at *
 have hE : ae.bQ (f1, f2) = if ae.dw (ae.aO f1).1 = false \/ ae.dw f2 = false \/ f2 = [48] \/ ((ae.aO f1).1 = [48] /\ (ae.aO f1).2 = true) then 4
  else if 300 < (ae.aO f1).1.length \/ 300 < f2.length then 3
  else if Nat.gcd (ae.ax (ae.aO f1).1) (ae.ax f2) ≠ 1 then 4 else 0 := rfl
 have hV : ae.bQ (f1, f2) = 0 -> ae.jr (f1, f2) = ⟨(ae.aO f1).2, ae.ax (ae.aO f1).1, ae.ax f2⟩ := fun h => if_pos h
 have hB := fun e => ae.yj (f := (f1, f2)) (e := e)
 have hC := fun w => mX f1 w
 have hL := iP f1
 generalize ae.jr (f1, f2) = V at *
 generalize ae.bQ (f1, f2) = E at *
 generalize (ae.aO f1).1 = s at *
 generalize (ae.aO f1).2 = m at *
 have hD1 := fun w => Ba s w (by omega)
 have hD2 := fun w => Ba f2 w (by omega)
 have hs1 := fun h => ae.jb (s := s) h
 have hs2 := fun h => ae.jb (s := f2) h
 have hp2 := fun h => ae.wY (s := f2) h
 generalize ae.dw s = d1 at *
 generalize ae.dw f2 = d2 at *
 refine yE func135 rfl results135 ntmps135 [] [200006] [.agg [.str f1, .str f2]] w ?_
 by_cases hbad : d1 = false \/ d2 = false \/ f2 = [48] \/ (s = [48] /\ m = true)
 ·rw [if_pos hbad] at hE
  have hV0 := hB 4 hE (by decide)
  repeat' (first | exact ⟨⟩ | refine yG ?_ ?_ | refine yA (.bg [.str s, .bool m]) (fun _ => hC) ?_ | refine yA (.bool d1) (fun _ => hD1) ?_ | refine yA (.bool d2) (fun _ => hD2) ?_ | intro _)
  all_goals first | (exfalso; simp_all; done) | skip
  all_goals refine ret fun β w' hm => ?_
  all_goals (rw [hE]; exact iZ hV0 hm.below)
 ·rw [if_neg hbad] at hE
  simp only [not_or, Bool.not_eq_false] at hbad
  obtain ⟨rfl, rfl, hz, hm0⟩ := hbad
  obtain ⟨-, ha1⟩ := hs1 rfl
  obtain ⟨-, ha2⟩ := hs2 rfl
  by_cases hlen : 300 < s.length \/ 300 < f2.length
  ·rw [if_pos hlen] at hE
   have hV0 := hB 3 hE (by decide)
   repeat' (first | exact ⟨⟩ | refine yG ?_ ?_ | refine yA (.bg [.str s, .bool m]) (fun _ => hC) ?_ | refine yA (.lit true) (fun _ => hD1) ?_ | refine yA (.lit true) (fun _ => hD2) ?_ | intro _)
   all_goals first | (exfalso; simp_all; done) | (exfalso; omega) | skip
   all_goals refine ret fun β w' hm => ?_
   all_goals (rw [hE]; exact iZ hV0 hm.below)
  ·rw [if_neg hlen] at hE
   have hP1 := fun w => parse_any s w (by omega) ha1
   have hP2 := fun w => parse_any f2 w (by omega) ha2
   have hn1 := ae.qG (b := 1000000000) (by omega) ha1
   have hn2 := ae.qG (b := 1000000000) (by omega) ha2
   have hv2 := hp2 rfl hz
   generalize ae.ax s = x at *
   generalize ae.ax f2 = y at *
   have hgn := ae.dD (b := 1000000000) (by omega) (Nat.gcd_le_right x hv2)
   repeat' (first | exact ⟨⟩ | refine yG ?_ ?_ | refine yA (.bg [.str s, .bool m]) (fun _ => hC) ?_ | refine yA (.lit true) (fun _ => hD1) ?_ | refine yA (.lit true) (fun _ => hD2) ?_ | (refine aH .u32 1000000000 x hw0 (by kernel_rfl) rfl (fun β w' hm => hP1 w') (fun a1 c1 q1 q2 q3 => ?_)) | (refine aH .u32 1000000000 y hw0 (by kernel_rfl) rfl (fun β w' hm => hP2 w') (fun a2 c2 q4 q5 q6 => ?_)) | (refine mQ (Lz x a1 (Lz y a2 [])) .u32 1000000000 (Nat.gcd x y) hw0 (by kernel_rfl) rfl (by repeat (first | exact iD | refine cu 1 (Nat.le_of_ble_eq_true rfl) rfl ?_ | refine cu 2 (Nat.le_of_ble_eq_true rfl) rfl ?_ | refine cu 3 (Nat.le_of_ble_eq_true rfl) rfl ?_ | refine cu 4 (Nat.le_of_ble_eq_true rfl) rfl ?_ | refine cu 5 (Nat.le_of_ble_eq_true rfl) rfl ?_)) (fun β w' hm => uN _ a1 a2 c1 c2 x y w' (zl hw0 hm.aU) (by omega) (by omega) q1 q2 q4 q5 uz (fun h => Ar (uz h)) (df hm) (df hm)) (fun a3 c3 q7 q8 q9 => ?_)) | refine yK (.bool (decide (Nat.gcd x y = 1))) (fun β w hm => one_any a3 c3 _ w (by omega) (df hm)) ?_ | intro _)
   all_goals first | (exfalso; simp_all; done) | (exfalso; omega) | skip
   all_goals (refine ret fun β w' hm => ?_)
   all_goals first
    | (have hg : ¬ Nat.gcd x y = 1 := by simp_all
       rw [if_pos hg] at hE
       rw [hE]
       exact iZ (hB 4 hE (by decide)) hm.below)
    | (have hg : Nat.gcd x y = 1 := by simp_all
       rw [if_neg (not_not_intro hg)] at hE
       rw [hE, hV hE]
       exact ⟨⟨_, _, _, a1, c1, a2, c2⟩, rfl, rfl, ⟨q1, q4, q2, q5⟩, oK (df hm) (nS hm) (df hm) (nS hm), hm.below⟩)
theorem LsA {k : IntKind} {b : Nat} {t u : bI} {w w' : World} (h1 : ∀ p ∈ t.L k b, aS p.1 p.2 w' /\ bz p.1 p.2 w) (h2 : ∀ p ∈ u.L k b, aS p.1 p.2 w' /\ bz p.1 p.2 w) : ∀ p ∈ t.L k b ++ u.L k b, aS p.1 p.2 w' /\ bz p.1 p.2 w := fun p hp => (List.mem_append.1 hp).elim (h1 p) (h2 p)
def ae.jF (f g : ae.Fr) : Int := if ae.bQ f = 0 then ae.bQ g else ae.bQ f
def ae.DJ (f g : ae.Fr) : ae.Num := if ae.bQ f = 0 then ae.jr g else ae.jr f
theorem check_any (f : ae.Fr) (w : World) (hw0 : 0 < w.heap.size) (h1 : f.1.length <= 9223372036854775807) (h2 : f.2.length <= 9223372036854775807) :
  QC 70 #[.agg #[.string (ah f.1), .string (ah f.2)]] w (.int .i64 (ae.bQ f)) := by
 have R1 := fun (w' : World) (h : BW w w') => pO f w' (zl hw0 h.size) h1 h2
 obtain ⟨f1, f2⟩ := f
 dsimp only at *
 generalize ae.jr (f1, f2) = V at *
 generalize ae.bQ (f1, f2) = E at *
 refine yE func70 rfl results70 ntmps70 [] [] [.agg [.str f1, .str f2]] w ?_
 repeat' (first | exact ⟨⟩ | refine yG ?_ ?_ | (refine eG .u32 1000000000 V E hw0 (by kernel_rfl) rfl (fun β w' hm => R1 w' hm.below) (fun a1 c1 a2 c2 hcap => ?_)) | intro _)
 all_goals rfl
theorem both_any (f g : ae.Fr) (w : World) (hw0 : 0 < w.heap.size) (h1 : f.1.length <= 9223372036854775807) (h2 : f.2.length <= 9223372036854775807) (h3 : g.1.length <= 9223372036854775807) (h4 : g.2.length <= 9223372036854775807) :
  Calls Tryz.prog 192 #[.agg #[.string (ah f.1), .string (ah f.2)], .agg #[.string (ah g.1), .string (ah g.2)]] w (MP .u32 1000000000 (ae.jr f) (ae.DJ f g) (ae.jF f g) w) := by
 have R1 := fun (w' : World) (h : BW w w') => pO f w' (zl hw0 h.size) h1 h2
 have R2 := fun (w' : World) (h : BW w w') => pO g w' (zl hw0 h.size) h3 h4
 have hB := fun e => ae.yj (f := f) (e := e)
 have hE : ae.jF f g = if ae.bQ f = 0 then ae.bQ g else ae.bQ f := rfl
 have hY : ae.DJ f g = if ae.bQ f = 0 then ae.jr g else ae.jr f := rfl
 generalize ae.jF f g = E at *
 generalize ae.DJ f g = Y at *
 obtain ⟨f1, f2⟩ := f
 obtain ⟨g1, g2⟩ := g
 dsimp only at *
 generalize ae.jr (f1, f2) = V1 at *
 generalize ae.bQ (f1, f2) = E1 at *
 generalize ae.jr (g1, g2) = V2 at *
 generalize ae.bQ (g1, g2) = E2 at *
 obtain ⟨m1, n1, d1⟩ := V1
 obtain ⟨m2, n2, d2⟩ := V2
 refine yE func192 rfl results192 ntmps192 [] [200003, 200005] [.agg [.str f1, .str f2], .agg [.str g1, .str g2]] w ?_
 repeat' (first | refine yX ?_ | (apply And.intro <;> intro _) | apply gK | refine jO fun β => ?_ | intro βe | (refine eG .u32 1000000000 ⟨m1, n1, d1⟩ E1 hw0 (by kernel_rfl) rfl (fun β w' hm => R1 w' hm.below) (fun a1 c1 a2 c2 hcap => ?_)) | (refine eG .u32 1000000000 ⟨m2, n2, d2⟩ E2 hw0 (by kernel_rfl) rfl (fun β w' hm => R2 w' hm.below) (fun b1 e1 b2 e2 hcap2 => ?_)) | exact trivial)
 all_goals refine ret fun β w' hm => ?_
 ·rename_i hne
  rw [if_neg hne] at hE hY
  cases hB _ rfl hne
  rw [hE, hY]
  exact ⟨⟨_, _, _, a1, c1, a2, c2⟩, ⟨_, _, _, a1, c1, a2, c2⟩, rfl, rfl, rfl, hcap, hcap, LsA sW sW, hm.below⟩
 ·rename_i heq
  simp only [Decidable.not_not] at heq
  rw [if_pos heq] at hE hY
  rw [hE, hY]
  exact ⟨⟨_, _, _, a1, c1, a2, c2⟩, ⟨_, _, _, b1, e1, b2, e2⟩, rfl, rfl, rfl, hcap, hcap2, LsA (oK (df hm) (nS hm) (df hm) (nS hm)) (oK (df hm) (nS hm) (df hm) (nS hm)), hm.below⟩
abbrev iI (f : ae.Fr) : Value := .agg #[.string (ah f.1), .string (ah f.2)]
def fQ (f : ae.Fr) (err : Int) (w : World) (e : Ending) (w' : World) : Prop := e = .returned (.tuple #[iI f, .int .i64 err]) /\ BW w w'
theorem write_any (x : bI) (w : World) (hw : XW w) (hw0 : 0 < w.heap.size) (hx : aX .u32 1000000000 x w) (hd : 0 < x.d)
  (ng : ae.nd 1000000000 x.n <= 1000000) (hxd : ae.nd 1000000000 x.d <= 1000000) :
  Calls Tryz.prog 169 #[x.val 1000000000] w (fQ (ae.ak x.num) (ae.ay x.num) w) := by
 obtain ⟨m, n, d, a, c, b, e⟩ := x
 obtain ⟨hx1, hx2, ⟨hx3, hx4, hx5, hx6⟩⟩ := hx
 dsimp only [bI.num, bI.val] at *
 have hz := fun w' => lH a (ae.nd 1000000000 n) c w'
 have hF : ae.ak ⟨m, n, d⟩ = if n = 0 then ([48], [49]) else if (300 < (Lib.decDigits (n / Nat.gcd n d)).length \/ 300 < (Lib.decDigits (d / Nat.gcd n d)).length) then ([], []) else (ae.pU m (Lib.decDigits (n / Nat.gcd n d)), Lib.decDigits (d / Nat.gcd n d)) := rfl
 have hE : ae.ay ⟨m, n, d⟩ = if n = 0 then 0 else if (300 < (Lib.decDigits (n / Nat.gcd n d)).length \/ 300 < (Lib.decDigits (d / Nat.gcd n d)).length) then 19 else 0 := rfl
 generalize ae.ak ⟨m, n, d⟩ = F at *
 generalize ae.ay ⟨m, n, d⟩ = E at *
 by_cases hn : n = 0
 ·rw [if_pos hn] at hF hE
  rw [show decide ((ae.nd 1000000000 n : Int) = 0) = true from decide_eq_true (by rw [hn, ae.aT]; rfl)] at hz
  subst hF hE
  refine yE func169 rfl results169 ntmps169 [] [] [.agg [.bool m, .any (.slice a (ae.nd 1000000000 n) c), .any (.slice b (ae.nd 1000000000 d) e)]] w ?_
  repeat' (first | exact ⟨⟩ | refine yG ?_ ?_ | refine yA (.lit true) (fun _ => hz) ?_ | intro _)
  all_goals rfl
 ·rw [if_neg hn] at hF hE
  have X9 := Nat.pos_of_ne_zero hn
  rw [show decide ((ae.nd 1000000000 n : Int) = 0) = false from decide_eq_false (by have := (ae.fM (b := 1000000000) (by omega)).2 X9; omega)] at hz
  have hg := Nat.gcd_pos_of_pos_left d X9
  have hgn := ae.dD (b := 1000000000) (by omega) (Nat.gcd_le_right n hd)
  have hG := fun (w' : World) (h : BW w w') => uN (Lz n a (Lz d b [])) a b c e n d w' (zl hw0 h.size) (by omega) (by omega) hx3 hx5 hx4 hx6 uz (fun h => Ar (uz h)) (hx1.below h) (hx2.below h)
  generalize Nat.gcd n d = g at *
  have hq1 := ae.dD (b := 1000000000) (by omega) (Nat.div_le_self n g)
  have hq2 := ae.dD (b := 1000000000) (by omega) (Nat.div_le_self d g)
  have hT := fun (a : Option Addr) (cap x : Nat) (w' : World) (h : BW w w') => JU a cap x w' (hw.below h)
  have hD1 := fun (a3 : Option Addr) c3 (w' : World) (h : BW w w') h2 => jB a a3 c c3 n g w' (zl hw0 h.size) (by omega) (by omega) hg (hx1.below h) h2
  have hD2 := fun (a3 : Option Addr) c3 (w' : World) (h : BW w w') h2 => jB b a3 e c3 d g w' (zl hw0 h.size) (by omega) (by omega) hg (hx2.below h) h2
  generalize n / g = q1 at *
  generalize d / g = q2 at *
  generalize n % g = r1 at *
  generalize d % g = r2 at *
  have hT1 := fun a cap w' h => hT a cap q1 w' h (by omega)
  have hT2 := fun a cap w' h => hT a cap q2 w' h (by omega)
  generalize Lib.decDigits q1 = s1 at *
  generalize Lib.decDigits q2 = s2 at *
  refine yE func169 rfl results169 ntmps169 [] [200006] [.agg [.bool m, .any (.slice a (ae.nd 1000000000 n) c), .any (.slice b (ae.nd 1000000000 d) e)]] w ?_
  repeat' (first | exact ⟨⟩ | refine yG ?_ ?_ | refine yA (.lit false) (fun _ => hz) ?_ | (refine mQ (Lz n a (Lz d b [])) .u32 1000000000 g hw0 (by kernel_rfl) rfl (jE (Nat.le_of_ble_eq_true rfl) hx1 rfl (jE (Nat.le_of_ble_eq_true rfl) hx2 rfl iD)) (fun β w' hm => hG w' hm.below) (fun a3 c3 h1 h2 h3 => ?_)) | (refine fU .u32 1000000000 q1 r1 hw0 (by kernel_rfl) rfl (fun β w' hm => hD1 a3 c3 w' hm.below (hm.Tz 2 rfl)) (fun qa qc ra rc k1 k2 k3 k4 k5 k6 => ?_)) | (refine fU .u32 1000000000 q2 r2 hw0 (by kernel_rfl) rfl (fun β w' hm => hD2 a3 c3 w' hm.below (hm.Tz 2 rfl)) (fun qb qd rb rd k7 k8 k9 k10 k11 k12 => ?_)) | refine yK (.str s1) (fun β w hm => hT1 qa qc w hm.below (hm.dS 3 rfl)) ?_ | refine yK (.str s2) (fun β w hm => hT2 qb qd w hm.below (hm.dS 5 rfl)) ?_ | intro _)
  all_goals first | (exfalso; omega) | skip
  all_goals first
   | (rw [if_pos (by omega)] at hF hE; subst hF hE; rfl)
   | (rw [if_neg (by omega)] at hF hE; subst hF hE; simp_all [SV.den, SV.aF, ae.pU]; done)
end Go.Proofs.YtdkhkfdenlabaaaGreatDoor
