/- The reference's numbers: halves and products. The reference's numbers: quotients. Numbers read and written: the program's parse, the reference The shelf's contracts: those of the first text. Strings of digits; fractions read: the program's digits, rea Fractions of the program: read, both, Check. Fractions of the program: write. -/
import Derived.Test.YtdkhkfdenlabaaaGreatDoorLGG
import Derived.Test.YtdkhkfdenlabaaaGreatDoorLGK
import Derived.Test.YtdkhkfdenlabaaaGreatDoorLGH
import Derived.Test.YtdkhkfdenlabaaaGreatDoorLGD
import Derived.Lib.AtoiErrMem
import Derived.Shelf.Strings.SlTrimAscii
import Derived.Test.YtdkhkfdenlabaaaGreatDoorLGI
set_option linter.unusedSimpArgs false
set_option linter.unusedVariables false
set_option maxRecDepth 100000
set_option maxHeartbeats 64000000
namespace Go.Proofs.YtdkhkfdenlabaaaGreatDoor
open Go.RowKit
open Sym
attribute [local irreducible] Calls Sym.AggEq ExP.nd ExP.dig ExP.upd ExP.mixP
theorem half_any (a : Option Addr) (ca x : Nat) (w : World) (hx : ExP.nd 10 x ≤ 100000000) (hs : SlAt a (nv .i64 10 x) w) :
  Calls Tryz.prog 155 #[.slice a (ExP.nd 10 x) ca] w (NatOut .i64 10 (x / 2) w) := by
 obtain ⟨i0, hi, hz0, hz1, hz2⟩ := info_parts intInfo
 have hu := Tryz.underlying70
 have hgx := fun i (h : i < ExP.nd 10 x) => nv_get (k := .i64) h
 have hnx := nv_ne (k := .i64) (b := 10) (x := x)
 have hdx := fun i => ExP.dig_lt (b := 10) (by omega) i x
 have hxl := ExP.nd_lt (b := 10) (by omega) x
 have hTR := fun g (V : Nat) (w' : World) (hV : V < 10 ^ ExP.nd 10 x) hs' => rtrim_any (some ⟨g, 0, none⟩) (ExP.nd 10 x) (ExP.nd 10 x) V w' hV (Nat.le_refl _) hx hs'
 refine yE Tryz.func155 rfl Tryz.results155 Tryz.ntmps155 [] [] [.any (.slice a (ExP.nd 10 x) ca)] w ?_
 generalize ExP.nd 10 x = n at *
 repeat' (first | refine yX ?_ | (apply And.intro <;> intro _) | apply bothI | refine retB fun β => ?_ | intro βe | (refine opx_make (m := n) rfl (by omega) rfl rfl hu hi hz0 hz1 rfl (by rw [hz2]; omega) (by unfold maxLen; omega) (fun g => ?_)) | refine yO (x_len Tryz.underlying70) ?_ | exact trivial)
 rw [rep_row 10]
 refine loop env_ok rfl (T := {t : Nat × Nat × Nat // t.1 ≤ n ∧ ExP.DivI 10 x 2 t.1 t.2.1 t.2.2}) (fun t => ⟨[(0, .any (.slice a n ca)), (3, .any (.slice (some ⟨g, 0, none⟩) n n)), (4, .int .i64 (t.1.2.2 : Nat)), (5, .int .i64 ((t.1.1 : Nat) - 1 : Int))], [(0, true, .blob (OwnS 3 1 g n n (valsK .i64 (ExP.dgN 10 n t.1.2.1))))], 1, 33⟩) (fun t => t.1.1) ⟨(n, 0, 0), Nat.le_refl _, ExP.div_start hxl⟩ 1000 [] [] (fun _ => by exact Nat.zero_le _) (by dsimp only; ((with_reducible show wk _ _); repeat' (first | exact trivial | exact eqSV_refl _ | refine eqI ?_ | refine eqS ?_ | apply And.intro | exact yV | fail)); all_goals exact fun b x h => h) (fun t I hI => ?_)
 obtain ⟨⟨j, V, r⟩, hj, hD⟩ := t
 dsimp only at hj hD ⊢
 by_cases hj0 : j = 0
 ·subst hj0
  obtain ⟨rfl, -⟩ := ExP.div_end hD
  have hl := ExP.div_lt (by omega) hD hxl
  repeat' (first | refine yX ?_ | (apply And.intro <;> intro _) | apply bothI | refine retB fun β => ?_ | intro βe | refine yK (.any (.slice (some ⟨g, 0, none⟩) (ExP.nd 10 (x / 2)) n)) (fun β w hm => hTR g (x / 2) w hl (Mem.own hm 0 rfl).1) ?_ | exact trivial)
  refine ret fun β w' hm => ?_
  obtain ⟨q1, q2, q3⟩ := Mem.own hm 0 rfl
  have hle := ExP.nd_le (b := 10) (by omega) hl
  exact ⟨_, n, rfl, sl_pre q1 (dgN_pre hle .i64), fresh_own q2 rfl, (fun h => by cases h), hle, hm.below⟩
 ·obtain ⟨i, rfl⟩ : ∃ i, j = i + 1 := ⟨j - 1, by omega⟩
  obtain ⟨ad, rfl⟩ := SlAt.some hs (hnx (by omega))
  have r1 := sl_read hs (hgx i (by omega))
  have hdx := hdx i
  have hr2 : r < 2 := by rw [hD.r]; exact Nat.mod_lt _ (by omega)
  obtain ⟨hD1, hq⟩ := ExP.div_next (by omega) (by omega) hD rfl
  have hset := ExP.dgN_set (b := 10) (n := n) (V := V) (j := i) (by omega) hq
  generalize ExP.dig 10 i x = dx at *
  repeat' (first | refine yX ?_ | (apply And.intro <;> intro _) | apply bothI | refine retB fun β => ?_ | intro βe | (refine opx_store env_ok 0 (u := .int .i64 (((dx + r * 10) / 2 : Nat) : Int)) rfl rfl rfl rfl (fun β => by simp only [SV.den]; congr 1; omega) rfl rfl (by omega) ?_) | refine yO (x_len Tryz.underlying70) ?_ | refine yN (j := i) Tryz.underlying70 Tryz.sizeOf3 ?_ | refine yO (v := .int .i64 (dx : Nat)) (x_load1 (fun w => Tryz.isAgg3 w) (fun w' hb β => by rw [Nat.mul_one]; exact r1 w' hb)) ?_ | refine yO (x_rem (by omega) (by omega)) ?_ | refine yO (x_quo (by omega) (by omega) (by simp only [inK]; omega)) ?_ | exact trivial)
  refine hI _ ⟨(i, ExP.upd 10 V i ((dx + r * 10) / 2), (dx + r * 10) % 2), by dsimp only; omega, hD1⟩ (by dsimp only; omega) (by dsimp only; ((with_reducible show wk _ _); repeat' (first | exact trivial | exact eqSV_refl _ | refine eqI ?_ | refine eqS ?_ | apply And.intro | exact yV | fail)); all_goals (rw [Nat.mul_one, valsK_set, hset]; exact fun b x h => h))
theorem rtimes_any (a b : Option Addr) (ca cb x y : Nat) (w : World) (hx : ExP.nd 10 x ≤ 40000000) (hy : ExP.nd 10 y ≤ 40000000) (hs : SlAt a (nv .i64 10 x) w) (ht : SlAt b (nv .i64 10 y) w) :
  Calls Tryz.prog 179 #[.slice a (ExP.nd 10 x) ca, .slice b (ExP.nd 10 y) cb] w (NatOut .i64 10 (x * y) w) := by
 obtain ⟨i0, hi, hz0, hz1, hz2⟩ := info_parts intInfo
 have hu := Tryz.underlying70
 have hgx := fun i (h : i < ExP.nd 10 x) => nv_get (k := .i64) h
 have hgy := fun i (h : i < ExP.nd 10 y) => nv_get (k := .i64) h
 have hnx := nv_ne (k := .i64) (b := 10) (x := x)
 have hny := nv_ne (k := .i64) (b := 10) (x := y)
 have hdx := fun i => ExP.dig_lt (b := 10) (by omega) i x
 have hdy := fun i => ExP.dig_lt (b := 10) (by omega) i y
 have hxl := ExP.nd_lt (b := 10) (by omega) x
 have hyl := ExP.nd_lt (b := 10) (by omega) y
 have hTR := fun g (V : Nat) (w' : World) (hV : V < 10 ^ (ExP.nd 10 x + ExP.nd 10 y)) hs' => rtrim_any (some ⟨g, 0, none⟩) (ExP.nd 10 x + ExP.nd 10 y) (ExP.nd 10 x + ExP.nd 10 y) V w' hV (Nat.le_refl _) (by omega) hs'
 have hend := fun i => ExP.phA_end (b := 10) (x := x) (y := y) (i := i) (N := ExP.nd 10 x + ExP.nd 10 y) (by omega)
 refine yE Tryz.func179 rfl Tryz.results179 Tryz.ntmps179 [] [100008] [.any (.slice a (ExP.nd 10 x) ca), .any (.slice b (ExP.nd 10 y) cb)] w ?_
 generalize ExP.nd 10 x = n at *
 generalize ExP.nd 10 y = m at *
 repeat' (first | refine yX ?_ | (apply And.intro <;> intro _) | apply bothI | refine retB fun β => ?_ | intro βe | (refine opx_make (m := n + m) rfl (by omega) rfl rfl hu hi hz0 hz1 rfl (by rw [hz2]; omega) (by unfold maxLen; omega) (fun g => ?_)) | refine yO (x_len Tryz.underlying70) ?_ | exact trivial)
 rw [rep_row 10]
 refine loop env_ok rfl (T := {i : Nat // i ≤ n}) (fun t => ⟨[(0, .any (.slice a n ca)), (1, .any (.slice b m cb)), (5, .any (.slice (some ⟨g, 0, none⟩) (n + m) (n + m))), (18, .int .i64 (n : Nat)), (19, .int .i64 (t.1 : Nat))], [(0, true, .blob (OwnS 3 1 g (n + m) (n + m) (valsK .i64 (ExP.dgN 10 (n + m) ((x % 10 ^ t.1) * y)))))], 1, 68⟩) (fun t => n - t.1) ⟨0, Nat.zero_le _⟩ 1000 [] [100008] (fun _ => by exact Nat.zero_le _) (by dsimp only; rw [Nat.pow_zero, Nat.mod_one, Nat.zero_mul]; ((with_reducible show wk _ _); repeat' (first | exact trivial | exact eqSV_refl _ | refine eqI ?_ | refine eqS ?_ | apply And.intro | exact yV | fail)); all_goals exact fun b x h => h) (fun t I hI => ?_)
 obtain ⟨i, hin⟩ := t
 dsimp only at hin ⊢
 by_cases hlt : i < n
 ·obtain ⟨ad, rfl⟩ := SlAt.some hs (hnx (by omega))
  have r1 := sl_read hs (hgx i hlt)
  have hdxi := hdx i
  have hend := hend i
  have hN : (x % 10 ^ (i + 1)) * y < 10 ^ (n + m) := by
   have h1 : x % 10 ^ (i + 1) ≤ x := Nat.mod_le _ _
   have h2 : (x % 10 ^ (i + 1)) * y ≤ x * y := Nat.mul_le_mul_right _ h1
   have h3 : x * y < 10 ^ (n + m) := by rw [Nat.pow_add]; exact Nat.mul_lt_mul'' hxl hyl
   omega
  have hyN : y < 10 ^ (n + m - i) := ExP.lt_pow_mono (by omega) hyl (by omega)
  rw [← ExP.phA_zero]
  repeat' (first | refine yX ?_ | (apply And.intro <;> intro _) | apply bothI | refine retB fun β => ?_ | intro βe | refine yO (x_len Tryz.underlying70) ?_ | exact trivial)
  refine loop env_ok rfl (T := {k : Nat // k ≤ m}) (fun t => ⟨[(0, .any (.slice (some ad) n ca)), (1, .any (.slice b m cb)), (5, .any (.slice (some ⟨g, 0, none⟩) (n + m) (n + m))), (6, .int .i64 (i : Nat)), (18, .int .i64 (n : Nat)), (19, .int .i64 (i : Nat)), (23, .int .i64 (m : Nat)), (24, .int .i64 (t.1 : Nat))], [(0, true, .blob (OwnS 3 1 g (n + m) (n + m) (valsK .i64 (ExP.phA 10 x y i (n + m) t.1))))], 1, 68⟩) (fun t => m - t.1) ⟨0, Nat.zero_le _⟩ 1000 [] [100008] (fun _ => by exact Nat.zero_le _) (by ((with_reducible show wk _ _); repeat' (first | exact trivial | exact eqSV_refl _ | refine eqI ?_ | refine eqS ?_ | apply And.intro | exact yV | fail)); all_goals exact fun b x h => h) (fun t I2 hI2 => ?_)
  obtain ⟨k, hkm⟩ := t
  dsimp only at hkm ⊢
  by_cases hlk : k < m
  ·obtain ⟨bd, rfl⟩ := SlAt.some ht (hny (by omega))
   have r2 := sl_read ht (hgy k hlk)
   have hdyk := hdy k
   have hset := ExP.phA_set 10 x y i (n + m) k
   have r3 := valsK_get (k := .i64) (ExP.phA_get (b := 10) (x := x) (y := y) (i := i) (N := n + m) (k := k) (by omega))
   have hdv := ExP.dig_lt (b := 10) (by omega) (i + k) ((x % 10 ^ i) * y)
   generalize ExP.dig 10 (i + k) ((x % 10 ^ i) * y) = dv at *
   generalize ExP.dig 10 i x = dx at *
   generalize ExP.dig 10 k y = dy at *
   have hp0 : 0 ≤ (dx : Int) * (dy : Int) := Int.mul_nonneg (by omega) (by omega)
   have hp1 : (dx : Int) * (dy : Int) ≤ 81 := by
    have : dx * dy ≤ 9 * 9 := Nat.mul_le_mul (by omega) (by omega)
    have h2 : ((dx * dy : Nat) : Int) ≤ 81 := by omega
    simpa using h2
   repeat' (first | refine yX ?_ | (apply And.intro <;> intro _) | apply bothI | refine retB fun β => ?_ | intro βe | (refine opx_store env_ok 0 (u := .int .i64 ((dv + dx * dy : Nat) : Int)) rfl rfl rfl rfl (fun β => by simp [SV.den]) rfl rfl (by omega) ?_) | refine yO (x_len Tryz.underlying70) ?_ | refine yN (j := i) Tryz.underlying70 Tryz.sizeOf3 ?_ | refine yN (j := k) Tryz.underlying70 Tryz.sizeOf3 ?_ | refine yN (j := i + k) Tryz.underlying70 Tryz.sizeOf3 ?_ | refine yO (v := .int .i64 (dx : Nat)) (x_load1 (fun w => Tryz.isAgg3 w) (fun w' hb β => by rw [Nat.mul_one]; exact r1 w' hb)) ?_ | refine yO (v := .int .i64 (dy : Nat)) (x_load1 (fun w => Tryz.isAgg3 w) (fun w' hb β => by rw [Nat.mul_one]; exact r2 w' hb)) ?_ | refine yO (v := .int .i64 (dv : Nat)) (x_loadO 0 (.int .i64 (dv : Nat)) (fun w => Tryz.isAgg3 w) rfl (fun β => by rw [Nat.mul_one]; exact r3)) ?_ | exact trivial)
   all_goals (refine hI2 _ ⟨k + 1, by omega⟩ (by dsimp only; omega) (by ((with_reducible show wk _ _); repeat' (first | exact trivial | exact eqSV_refl _ | refine eqI ?_ | refine eqS ?_ | apply And.intro | exact yV | fail)); all_goals (rw [Nat.mul_one, valsK_set, hset]; exact fun b x h => h)))
  ·obtain rfl : k = m := by omega
   rw [hend]
   repeat' (first | refine yX ?_ | (apply And.intro <;> intro _) | apply bothI | refine retB fun β => ?_ | intro βe | exact trivial)
   refine loop env_ok rfl (T := {t : Nat × Nat × Nat // i ≤ t.1 ∧ t.1 ≤ n + k ∧ t.2.1 ≤ 10 ∧ ExP.CarryI 10 x y i t.1 t.2.1 t.2.2}) (fun t => ⟨[(0, .any (.slice (some ad) n ca)), (1, .any (.slice b k cb)), (5, .any (.slice (some ⟨g, 0, none⟩) (n + k) (n + k))), (8, .int .i64 (t.1.2.1 : Nat)), (9, .int .i64 (t.1.1 : Nat)), (18, .int .i64 (n : Nat)), (19, .int .i64 (i : Nat))], [(0, true, .blob (OwnS 3 1 g (n + k) (n + k) (valsK .i64 (ExP.phB 10 x y i (n + k) t.1.1 t.1.2.2))))], 1, 68⟩) (fun t => n + k - t.1.1) ⟨(i, 0, ((x % 10 ^ i) * y) % 10 ^ i), Nat.le_refl _, by dsimp only; omega, by dsimp only; omega, ExP.carry_start (by omega)⟩ 1000 [] [100008] (fun _ => by exact Nat.zero_le _) (by dsimp only; ((with_reducible show wk _ _); repeat' (first | exact trivial | exact eqSV_refl _ | refine eqI ?_ | refine eqS ?_ | apply And.intro | exact yV | fail)); all_goals exact fun b x h => h) (fun t I3 hI3 => ?_)
   obtain ⟨⟨q, c, S⟩, hq1, hq2, hc, hC⟩ := t
   dsimp only at hq1 hq2 hc hC ⊢
   by_cases hlq : q < n + k
   ·have hnx := ExP.carry_next (b := 10) (by omega) hC hq1 rfl
    have hml := ExP.mixP_le (x := x) (y := y) (i := i) (k := q)
    have r3 := valsK_get (k := .i64) (ExP.phB_get (b := 10) (x := x) (y := y) (i := i) (N := n + k) (k := q) (S := S) hlq)
    have hset := fun d (hd : d < 10) => ExP.phB_set (b := 10) (x := x) (y := y) (i := i) (N := n + k) (k := q) (S := S) (d := d) (by omega) hC.lt hd
    generalize ExP.mixP 10 x y i q = mp at *
    repeat' (first | refine yX ?_ | (apply And.intro <;> intro _) | apply bothI | refine retB fun β => ?_ | intro βe | (refine opx_store env_ok 0 (u := .int .i64 (((mp + c) % 10 : Nat) : Int)) rfl rfl rfl rfl (fun β => by simp only [SV.den]; congr 1) rfl rfl (by omega) ?_) | refine yO (x_len Tryz.underlying70) ?_ | refine yN (j := q) Tryz.underlying70 Tryz.sizeOf3 ?_ | refine yO (v := .int .i64 (mp : Nat)) (x_loadO 0 (.int .i64 (mp : Nat)) (fun w => Tryz.isAgg3 w) rfl (fun β => by rw [Nat.mul_one]; exact r3)) ?_ | refine yO (x_rem (by omega) (by omega)) ?_ | refine yO (x_quo (by omega) (by omega) (by simp only [inK]; omega)) ?_ | exact trivial)
    refine hI3 _ ⟨(q + 1, (mp + c) / 10, S + (mp + c) % 10 * 10 ^ q), by dsimp only; omega, by dsimp only; omega, by dsimp only; omega, hnx⟩ (by dsimp only; omega) (by dsimp only; ((with_reducible show wk _ _); repeat' (first | exact trivial | exact eqSV_refl _ | refine eqI ?_ | refine eqS ?_ | apply And.intro | exact yV | fail)); all_goals (rw [Nat.mul_one, valsK_set, hset _ (Nat.mod_lt _ (by omega))]; exact fun b x h => h))
   ·obtain rfl : q = n + k := by omega
    obtain ⟨rfl, rfl⟩ := ExP.carry_end (by omega) hC hN (by omega) hyN
    rw [ExP.phB_end]
    repeat' (first | refine yX ?_ | (apply And.intro <;> intro _) | apply bothI | refine retB fun β => ?_ | intro βe | refine yO (x_len Tryz.underlying70) ?_ | exact trivial)
    refine hI _ ⟨i + 1, by omega⟩ (by dsimp only; omega) (by dsimp only; ((with_reducible show wk _ _); repeat' (first | exact trivial | exact eqSV_refl _ | refine eqI ?_ | refine eqS ?_ | apply And.intro | exact yV | fail)); all_goals exact fun b x h => h)
 ·obtain rfl : i = n := by omega
  have hl : x * y < 10 ^ (i + m) := by rw [Nat.pow_add]; exact Nat.mul_lt_mul'' hxl hyl
  rw [Nat.mod_eq_of_lt hxl]
  repeat' (first | refine yX ?_ | (apply And.intro <;> intro _) | apply bothI | refine retB fun β => ?_ | intro βe | refine yK (.any (.slice (some ⟨g, 0, none⟩) (ExP.nd 10 (x * y)) (i + m))) (fun β w hm => hTR g (x * y) w hl (Mem.own hm 0 rfl).1) ?_ | exact trivial)
  refine ret fun β w' hm => ?_
  obtain ⟨q1, q2, q3⟩ := Mem.own hm 0 rfl
  have hle := ExP.nd_le (b := 10) (by omega) hl
  exact ⟨_, i + m, rfl, sl_pre q1 (dgN_pre hle .i64), fresh_own q2 rfl, (fun h => by cases h), hle, hm.below⟩
end Go.Proofs.YtdkhkfdenlabaaaGreatDoor
namespace Go.Proofs.YtdkhkfdenlabaaaGreatDoor
open Go.RowKit
open Sym
attribute [local irreducible] Calls Sym.AggEq ExP.nd ExP.dig ExP.upd
theorem ExP.cmpS_ge {x y : Nat} : 0 ≤ ExP.cmpS x y ↔ y ≤ x := by
 unfold ExP.cmpS
 split
 ·constructor <;> intro h <;> omega
 ·split <;> constructor <;> intro h <;> omega
theorem ExP.set_zero {n V i : Nat} (h : ExP.dig 10 i V = 0) : (ExP.dgN 10 n V).set i 0 = ExP.dgN 10 n V := by
 rw [ExP.dgN_set (by omega) (by omega)]
 have e := ExP.upd_eq 10 V i 0
 rw [h] at e
 congr 1; omega
structure RvI (x y n : Nat) (t : DvT) : Prop where
 hj : t.j ≤ n
 d : ExP.DivI 10 x y t.j t.V t.r
 hn : t.ra = none → t.rc = 0
 hc : ExP.nd 10 t.r ≤ t.rc
structure RwT where
 t : Nat
 ra : Option Addr
 rc : Nat
theorem rdivide_any (a b : Option Addr) (ca cb x y : Nat) (w : World) (hw0 : 0 < w.heap.size) (hx : ExP.nd 10 x ≤ 40000000) (hy : ExP.nd 10 y ≤ 40000000) (hy0 : 0 < y) (hs : SlAt a (nv .i64 10 x) w) (ht : SlAt b (nv .i64 10 y) w) :
  Calls Tryz.prog 156 #[.slice a (ExP.nd 10 x) ca, .slice b (ExP.nd 10 y) cb] w (NatOut2 .i64 10 (x / y) (x % y) w) := by
 obtain ⟨i0, hi, hz0, hz1, hz2⟩ := info_parts intInfo
 have hu := Tryz.underlying70
 have hsz := fun w => Tryz.sizeOf3 w
 have hzv := fun w => Tryz.zeroValue3 w
 have hgx := fun i (h : i < ExP.nd 10 x) => nv_get (k := .i64) h
 have hnx := nv_ne (k := .i64) (b := 10) (x := x)
 have hdx := fun i => ExP.dig_lt (b := 10) (by omega) i x
 have hxl := ExP.nd_lt (b := 10) (by omega) x
 have hTR := fun g (V : Nat) (w' : World) (hV : V < 10 ^ (ExP.nd 10 x)) hs' => rtrim_any (some ⟨g, 0, none⟩) (ExP.nd 10 x) (ExP.nd 10 x) V w' hV (Nat.le_refl _) (by omega) hs'
 have hCM := fun (a' : Option Addr) (c' R : Nat) (w' : World) (hR : ExP.nd 10 R ≤ 100000000) hb h => rcompare_any a' b c' cb R y w' hR (by omega) h (SlAt.below ht hb)
 have hLS := fun (a' : Option Addr) (c' R : Nat) (w' : World) (hR : ExP.nd 10 R ≤ 100000000) (hle : y ≤ R) hb h => rless_any a' b c' cb R y w' hR (by omega) hle h (SlAt.below ht hb)
 refine yE Tryz.func156 rfl Tryz.results156 Tryz.ntmps156 [] [] [.any (.slice a (ExP.nd 10 x) ca), .any (.slice b (ExP.nd 10 y) cb)] w ?_
 generalize ExP.nd 10 x = n at *
 generalize hMY : ExP.nd 10 y = m at *
 repeat' (first | refine yX ?_ | (apply And.intro <;> intro _) | apply bothI | refine retB fun β => ?_ | intro βe | (refine opx_make (m := n) rfl (by omega) rfl rfl hu hi hz0 hz1 rfl (by rw [hz2]; omega) (by unfold maxLen; omega) (fun g => ?_)) | refine yO (x_len Tryz.underlying70) ?_ | exact trivial)
 rw [rep_row 10]
 refine loop_learn0 hw0 ?_
 refine loop env_ok rfl (T := {t : DvT // RvI x y n t}) (fun t => ⟨[(0, .any (.slice a n ca)), (1, .any (.slice b m cb)), (6, .any (.slice (some ⟨g, 0, none⟩) n n)), (7, .any (.slice t.1.ra (ExP.nd 10 t.1.r) t.1.rc)), (8, .int .i64 ((t.1.j : Nat) - 1 : Int))], [(0, true, .blob (OwnS 3 1 g n n (valsK .i64 (ExP.dgN 10 n t.1.V)))), (1, false, .blob (SlF w.heap.size t.1.ra (nv .i64 10 t.1.r)))], 2, 43⟩) (fun t => t.1.j) ⟨⟨n, 0, 0, none, 0⟩, ⟨Nat.le_refl _, ExP.div_start hxl, fun _ => rfl, by rw [ExP.nd_zero]; exact Nat.le_refl _⟩⟩ 1000 [] [] (fun _ => by exact Nat.zero_le _) (by dsimp only; rw [nv_nil0, ExP.nd_zero]; ((with_reducible show wk _ _); repeat' (first | exact trivial | exact eqSV_refl _ | refine eqI ?_ | refine eqS ?_ | apply And.intro | exact yV | fail)); all_goals exact fun b x h => h) (fun t I hI => ?_)
 obtain ⟨⟨j, V, r, ra, rc⟩, hj, hD, hn, hc⟩ := t
 dsimp only at hj hD hn hc ⊢
 by_cases hj0 : j = 0
 ·subst hj0
  obtain ⟨rfl, rfl⟩ := ExP.div_end hD
  have hl := ExP.div_lt (by omega) hD hxl
  repeat' (first | refine yX ?_ | (apply And.intro <;> intro _) | apply bothI | refine retB fun β => ?_ | intro βe | refine yK (.any (.slice (some ⟨g, 0, none⟩) (ExP.nd 10 (x / y)) n)) (fun β w hm => hTR g (x / y) w hl (Mem.own hm 0 rfl).1) ?_ | exact trivial)
  refine ret fun β w' hm => ?_
  obtain ⟨q1, q2, q3⟩ := Mem.own hm 0 rfl
  have hle := ExP.nd_le (b := 10) (by omega) hl
  exact ⟨_, n, ra, rc, rfl, ⟨sl_pre q1 (dgN_pre hle .i64), fresh_own q2 rfl, (fun h => by cases h), hle⟩, ⟨Mem.slF hm 1 rfl, Mem.freshF hm 1 rfl rfl, hn, hc⟩, hm.below⟩
 ·obtain ⟨i, rfl⟩ : ∃ i, j = i + 1 := ⟨j - 1, by omega⟩
  obtain ⟨ad, rfl⟩ := SlAt.some hs (hnx (by omega))
  have r1 := sl_read hs (hgx i (by omega))
  have hdx := hdx i
  have hry : r < y := by rw [hD.r]; exact Nat.mod_lt _ hy0
  obtain ⟨hD1, hq⟩ := ExP.div_next (by omega) hy0 hD rfl
  have hrn := ExP.nd_mono (b := 10) (by omega) (Nat.le_of_lt hry)
  rw [hMY] at hrn
  have hRl := ExP.cons_lt hdx (ExP.nd_lt (b := 10) (by omega) r)
  have hcons := ExP.cons_dg (b := 10) (r := r) (by omega) hdx (ExP.nd 10 r)
  have hset := fun d (hd : d < 10) => ExP.dgN_set (b := 10) (n := n) (V := V) (j := i) (d := d) (by omega) hd
  have hv0 : ExP.dig 10 i V = 0 := by rw [hD.v]; exact ExP.mul_pow_dig (by omega)
  have hz := ExP.set_zero (n := n) hv0
  have hnl := nv_len .i64 10 r
  have hrow : ([.int .i64 ((ExP.dig 10 i x : Nat) : Int)] : List Value) ++ nv .i64 10 r = valsK .i64 (ExP.dgN 10 (1 + ExP.nd 10 r) (ExP.dig 10 i x + r * 10)) := by rw [Nat.add_comm 1, hcons]; rfl
  generalize ExP.dig 10 i x = dx at *
  generalize hR : dx + r * 10 = R at *
  have hRn := ExP.nd_le (b := 10) (by omega) hRl
  have hmod : R % y = R - y * (R / y) := by have := Nat.div_add_mod R y; omega
  rw [hmod] at hD1
  have hT2 := fun g (c : Nat) hc (w' : World) hs' => rtrim_any (some ⟨g, 0, none⟩) (1 + ExP.nd 10 r) c R w' (by rw [Nat.add_comm]; exact hRl) hc (by omega) hs'
  have hpre := dgN_pre (b := 10) (x := R) (by omega : ExP.nd 10 R ≤ 1 + ExP.nd 10 r) .i64
  have hmn := fun z (h : z ≤ R) => ExP.nd_mono (b := 10) (by omega) h
  repeat' (first | refine yX ?_ | (apply And.intro <;> intro _) | apply bothI | refine retB fun β => ?_ | intro βe | refine yK (.any (.slice (some ⟨g2, 0, none⟩) (ExP.nd 10 R) cap2)) (fun β w hm => hT2 g2 cap2 (Mem.own hm 2 rfl).2.2 w (by have := (Mem.own hm 2 rfl).1; rw [hrow] at this; exact this)) ?_ | (refine opx_build1 (sz := 1) rfl rfl rfl (xs := [.int .i64 (dx : Nat)]) (fun β => rfl) rfl (by omega) (by omega) hu hsz hzv (fun g1 => ?_)) | (refine opx_appendW (sz := 1) 2 (ys := nv .i64 10 r) rfl hu hi hz0 hz1 rfl (by omega) rfl rfl rfl hn (by rw [Nat.mul_one]; exact hnl) (fun β w' hm => Mem.slF hm 1 rfl) (by unfold maxLen; omega) (by rw [hz2]; omega) (valsK_one _ _) (by kernel_rfl) (Nat.zero_le _) (fun g2 cap2 => ?_)) | refine yO (x_len Tryz.underlying70) ?_ | refine yN (j := i) Tryz.underlying70 Tryz.sizeOf3 ?_ | refine yO (v := .int .i64 (dx : Nat)) (x_load1 (fun w => Tryz.isAgg3 w) (fun w' hb β => by rw [Nat.mul_one]; exact r1 w' hb)) ?_ | exact trivial)
  rw [hrow]
  refine loop_share 2 (nv .i64 10 R) rfl hpre (fun hcap2 => ?_)
  refine loop env_ok rfl (T := {t : RwT // t.t ≤ R / y ∧ (t.ra = none → t.rc = 0) ∧ ExP.nd 10 (R - y * t.t) ≤ t.rc}) (fun t => ⟨[(0, .any (.slice (some ad) n ca)), (1, .any (.slice b m cb)), (6, .any (.slice (some ⟨g, 0, none⟩) n n)), (7, .any (.slice t.1.ra (ExP.nd 10 (R - y * t.1.t)) t.1.rc)), (8, .int .i64 (((i + 1 : Nat) : Int) - 1))], [(0, true, .blob (OwnS 3 1 g n n (valsK .i64 ((ExP.dgN 10 n V).set i t.1.t)))), (2, false, .blob (SlF w.heap.size t.1.ra (nv .i64 10 (R - y * t.1.t))))], 3, 43⟩) (fun t => R / y - t.1.t) ⟨⟨0, some ⟨g2, 0, none⟩, cap2⟩, Nat.zero_le _, (fun h => by cases h), by dsimp only; rw [Nat.mul_zero, Nat.sub_zero]; omega⟩ 1000 [] [] (fun _ => by exact Nat.zero_le _) (by dsimp only; rw [hz, Nat.mul_zero, Nat.sub_zero]; ((with_reducible show wk _ _); repeat' (first | exact trivial | exact eqSV_refl _ | refine eqI ?_ | refine eqS ?_ | apply And.intro | exact yV | fail)); all_goals exact fun b x h => h) (fun t I2 hI2 => ?_)
  obtain ⟨⟨t, ra2, rc2⟩, ht1, hn2, hc2⟩ := t
  dsimp only at ht1 hn2 hc2 ⊢
  have hyt : y * t ≤ R := Nat.le_trans (Nat.mul_le_mul_left _ ht1) (Nat.mul_div_le R y)
  have hcm := ExP.cmpS_ge (x := R - y * t) (y := y)
  have hnr := hmn (R - y * t) (by omega)
  have hCM := fun w' => hCM ra2 rc2 (R - y * t) w' (by omega)
  by_cases hlt : y ≤ R - y * t
  ·have ht2 : t + 1 ≤ R / y := by rw [Nat.le_div_iff_mul_le hy0, Nat.mul_comm, Nat.mul_add]; omega
   have hLS := fun w' => hLS ra2 rc2 (R - y * t) w' (by omega) hlt
   have hsub : R - y * t - y = R - y * (t + 1) := by rw [Nat.mul_add]; omega
   rw [hsub] at hLS
   generalize ExP.cmpS (R - y * t) y = cv at *
   repeat' (first | refine yX ?_ | (apply And.intro <;> intro _) | apply bothI | refine retB fun β => ?_ | intro βe | refine yK (.int .i64 cv) (fun β w hm => hCM w hm.below (Mem.slF hm 2 rfl)) ?_ | (refine callNat .i64 10 (R - y * (t + 1)) hw0 (by kernel_rfl) rfl (fun β w' hm => hLS w' hm.below (Mem.slF hm 2 rfl)) (fun ua uca h1 h2 h3 => ?_)) | (refine opx_store env_ok 0 (u := .int .i64 ((t + 1 : Nat) : Int)) rfl rfl rfl rfl (fun β => by simp [SV.den]) rfl rfl (by omega) ?_) | refine yO (x_len Tryz.underlying70) ?_ | refine yN (j := i) Tryz.underlying70 Tryz.sizeOf3 ?_ | refine yO (v := .int .i64 (t : Nat)) (x_loadO 0 (.int .i64 (t : Nat)) (fun w => Tryz.isAgg3 w) rfl (fun β => by rw [Nat.mul_one]; refine valsK_get ?_; rw [List.getElem?_set_self (by rw [ExP.dgN_len]; omega)])) ?_ | exact trivial)
   refine back_copy 2 3 rfl rfl rfl (Nat.zero_le _) (by kernel_rfl) ?_
   refine hI2 _ ⟨⟨t + 1, ua, uca⟩, ht2, h1, h2⟩ (by dsimp only; omega) (by dsimp only; ((with_reducible show wk _ _); repeat' (first | exact trivial | exact eqSV_refl _ | refine eqI ?_ | refine eqS ?_ | apply And.intro | exact yV | fail)); all_goals first | exact fun b x h => h | (rw [Nat.mul_one, valsK_set, List.set_set]; exact fun b x h => h))
  ·have hte : t = R / y := by
    refine Nat.le_antisymm ht1 (Nat.le_of_lt_succ ?_)
    rw [Nat.div_lt_iff_lt_mul hy0, Nat.succ_mul, Nat.mul_comm]; omega
   subst hte
   rw [hset _ hq]
   generalize ExP.cmpS (R - y * (R / y)) y = cv at *
   repeat' (first | refine yX ?_ | (apply And.intro <;> intro _) | apply bothI | refine retB fun β => ?_ | intro βe | refine yK (.int .i64 cv) (fun β w hm => hCM w hm.below (Mem.slF hm 2 rfl)) ?_ | exact trivial)
   refine back_copy 1 2 rfl rfl rfl (Nat.zero_le _) (by kernel_rfl) ?_
   refine hI _ ⟨⟨i, ExP.upd 10 V i (R / y), R - y * (R / y), ra2, rc2⟩, ⟨by dsimp only; omega, hD1, hn2, hc2⟩⟩ (by dsimp only; omega) (by dsimp only; ((with_reducible show wk _ _); repeat' (first | exact trivial | exact eqSV_refl _ | refine eqI ?_ | refine eqS ?_ | apply And.intro | exact yV | fail)); all_goals exact fun b x h => h)
theorem ExP.decFrom_val : ∀ (s : List UInt8) (n : Nat), s.all ExP.digC = true → Lib.decFrom n s = some (ExP.valF n s)
 | [], _, _ => by rw [ExP.valF_nil]; rfl
 | c :: r, n, h => by
   simp only [List.all_cons, Bool.and_eq_true] at h
   have hc := h.1
   unfold ExP.digC at hc
   simp only [Bool.and_eq_true, decide_eq_true_eq, UInt8.le_iff_toNat_le] at hc
   have hv : Lib.digitVal c = some (c.toNat - 48) := by
    unfold Lib.digitVal; rw [if_pos (by simpa using hc)]
   rw [Lib.decFrom, hv]
   dsimp only
   rw [ExP.decFrom_val r _ h.2, ExP.valF_cons]
theorem ExP.atoi_val (s : List UInt8) (h0 : s ≠ []) (h : s.all ExP.digC = true) : Lib.atoi s = some (ExP.valS s : Int) := by
 cases s with
 | nil => exact absurd rfl h0
 | cons c r =>
   have hc : ExP.digC c = true := by simp only [List.all_cons, Bool.and_eq_true] at h; exact h.1
   have hc := ExP.digC_nat.1 hc
   have h45 : (c == 45) = false := by rw [beq_eq_false_iff_ne]; intro e; rw [e] at hc; simp at hc
   have h43 : (c == 43) = false := by rw [beq_eq_false_iff_ne]; intro e; rw [e] at hc; simp at hc
   have e : Lib.decNat (c :: r) = some (ExP.valS (c :: r)) := by
    unfold Lib.decNat; rw [ExP.decFrom_val _ _ h]; rfl
   simp [Lib.atoi, h45, h43, e]
theorem atoi_any (s : List UInt8) (w : World) (h0 : s ≠ []) (hl : s.length ≤ 18) (h : s.all ExP.digC = true) : QC 177 #[.string (bstr s)] w (.tuple #[.int .i64 (ExP.valS s : Int), .nilIface]) := by
 refine (Tryz.strconv_Atoi (bstr s) _ (by rw [bstr_size]; exact hl) (ExP.atoi_val s h0 h) w).mono ?_
 rintro e w' ⟨h, t, rfl⟩
 exact ⟨h, Lib.bytesWorld_below _ _ _⟩
abbrev apJ32 (fr : List (Nat × SV)) (d n i : Nat) (g cap : Nat) (xs : List Value) : St := match i with
 | 0 => ⟨(d, .any (.slice none 0 0)) :: fr, [], 0, n⟩
 | i + 1 => ⟨(d, .any (.slice (some ⟨g, 0, none⟩) (i + 1) cap)) :: fr, [(1, true, .blob (OwnS 161 1 g (i + 1) cap xs))], 2, n⟩
theorem all_drop {p : UInt8 → Bool} {s : List UInt8} (h : s.all p = true) (n : Nat) : (s.drop n).all p = true := by
 rw [List.all_eq_true] at h ⊢
 exact fun x hx => h x (List.mem_of_mem_drop hx)
theorem all_take {p : UInt8 → Bool} {s : List UInt8} (h : s.all p = true) (n : Nat) : (s.take n).all p = true := by
 rw [List.all_eq_true] at h ⊢
 exact fun x hx => h x (List.mem_of_mem_take hx)
structure PsT where
 i : Nat
 m : Nat
 g : Nat
 cap : Nat
theorem parse_any (s : List UInt8) (w : World) (hs : s.length ≤ 1000000) (hd : s.all ExP.digC = true) : Calls Tryz.prog 166 #[.string (bstr s)] w (NatOut .u32 1000000000 (ExP.valS s) w) := by
 obtain ⟨i0, hi, hz0, hz1, hz2⟩ := info_parts u32Info
 have hu := Tryz.underlying137
 have hsz := fun w => Tryz.sizeOf161 w
 have hzv := fun w => Tryz.zeroValue161 w
 have e9 : (1000000000 : Nat) = 10 ^ 9 := by decide
 have hVl : ∀ m i, s.length - m ≤ 9 * i → ExP.valS (s.drop m) < 1000000000 ^ i := fun m i h => by
  have h1 := ExP.val_lt _ (all_drop hd m)
  rw [List.length_drop] at h1
  rw [e9, ← Nat.pow_mul]
  exact Nat.lt_of_lt_of_le h1 (Nat.pow_le_pow_right (by omega) h)
 refine yE Tryz.func166 rfl Tryz.results166 Tryz.ntmps166 [] [] [.str s] w ?_
 repeat' (first | refine yX ?_ | (apply And.intro <;> intro _) | apply bothI | refine retB fun β => ?_ | intro βe | exact trivial)
 refine loop env_ok rfl (T := {t : PsT // t.m ≤ s.length ∧ s.length - t.m ≤ 9 * t.i ∧ (0 < t.m → s.length - t.m = 9 * t.i) ∧ t.i ≤ s.length}) (fun t => apJ32 [(0, .str (s.take t.1.m))] 3 31 t.1.i t.1.g t.1.cap (valsK .u32 (ExP.dgN 1000000000 t.1.i (ExP.valS (s.drop t.1.m))))) (fun t => t.1.m) ⟨⟨0, s.length, 0, 0⟩, Nat.le_refl _, by dsimp only; omega, fun _ => by dsimp only; omega, Nat.zero_le _⟩ 1000 [] [] (fun t => by exact Nat.zero_le _) (by dsimp only [apJ32]; rw [List.take_of_length_le (Nat.le_refl _)]; ((with_reducible show wk _ _); repeat' (first | exact trivial | exact eqSV_refl _ | refine eqI ?_ | refine eqS ?_ | apply And.intro | exact yV | fail))) (fun t I hI => ?_)
 obtain ⟨⟨i, m, g, cap⟩, hm, hl1, hl2, hil⟩ := t
 dsimp only at hm hl1 hl2 hil ⊢
 have hV := hVl m i hl1
 have htl : (s.take m).length = m := by rw [List.length_take]; omega
 by_cases hm0 : 0 < m
 ·have hl2 := hl2 hm0
  obtain ⟨q, hq⟩ : ∃ q, q = m - 9 := ⟨_, rfl⟩
  have hck : ((s.take m).drop q).length = m - q := by rw [List.length_drop, htl]
  have hcd : ((s.take m).drop q).all ExP.digC = true := all_drop (all_take hd m) q
  have hcn := ExP.val_lt _ hcd
  have hcb : ExP.valS ((s.take m).drop q) < 1000000000 := by
   rw [hck] at hcn
   exact Nat.lt_of_lt_of_le hcn (by rw [e9]; exact Nat.pow_le_pow_right (by omega) (by omega))
  have hA := fun w => atoi_any ((s.take m).drop q) w (fun e => by rw [e] at hck; simp at hck; omega) (by omega) hcd
  have hVq : ExP.valS (s.drop q) = ExP.valS (s.drop m) + ExP.valS ((s.take m).drop q) * 1000000000 ^ i := by
   have e : s.drop q = (s.take m).drop q ++ s.drop m := by
    have h1 : s = s.take m ++ s.drop m := (List.take_append_drop m s).symm
    conv => lhs; rw [h1]
    rw [List.drop_append_of_le_length (by rw [htl]; omega)]
   rw [e, ExP.val_append, List.length_drop, hl2, e9, ← Nat.pow_mul, Nat.add_comm]
  have hrow := fun (v : Int) (hv : v = ((ExP.valS ((s.take m).drop q) : Nat) : Int)) => ExP.row_snoc (k := .u32) (b := 1000000000) (i := i) (S := ExP.valS (s.drop m)) (by omega) hV hcb hv
  rw [← hVq] at hrow
  have htt : (s.take m).take q = s.take q := by rw [List.take_take, Nat.min_eq_left (by omega)]
  generalize ExP.valS ((s.take m).drop q) = cv at *
  cases i with
  | zero =>
    dsimp only [apJ32]
    repeat' (first | refine yX ?_ | (apply And.intro <;> intro _) | apply bothI | refine retB fun β => ?_ | intro βe | refine yK (.tup [.int .i64 (cv : Nat), .any .nilIface]) (fun β w hm => hA w) ?_ | (refine opx_build1 (sz := 1) rfl rfl rfl (xs := [.int .u32 (cv : Nat)]) (fun β => rfl) rfl (by omega) (by omega) hu hsz hzv (fun g1 => ?_)) | (refine opx_append0 (sz := 1) 0 rfl hu hi hz0 hz1 rfl (by omega) rfl rfl rfl (by unfold maxLen; omega) (by rw [hz2]; omega) (by simp [Value.oneCell']) (by omega) (fun g2 cap2 => ?_)) | ((with_reducible show ∃ _, _); first | (refine ⟨q, by rw [htl]; omega, by rw [htl]; omega, ?_⟩)) | exact trivial)
    refine hI _ ⟨⟨0 + 1, q, g2, cap2⟩, by dsimp only; omega, by dsimp only; omega, fun h => by dsimp only at h ⊢; omega, by dsimp only; omega⟩ (by dsimp only; omega) (by dsimp only [apJ32]; rw [← hrow _ rfl, ← htt]; ((with_reducible show wk _ _); repeat' (first | exact trivial | exact eqSV_refl _ | refine eqI ?_ | refine eqS ?_ | apply And.intro | exact yV | fail)); all_goals (exact fun b x h => h))
  | succ i =>
    dsimp only [apJ32]
    repeat' (first | refine yX ?_ | (apply And.intro <;> intro _) | apply bothI | refine retB fun β => ?_ | intro βe | refine yK (.tup [.int .i64 (cv : Nat), .any .nilIface]) (fun β w hm => hA w) ?_ | (refine opx_build1 (sz := 1) rfl rfl rfl (xs := [.int .u32 (cv : Nat)]) (fun β => rfl) rfl (by omega) (by omega) hu hsz hzv (fun g1 => ?_)) | (refine opx_append (sz := 1) 1 2 rfl hu hi hz0 hz1 rfl (by omega) rfl rfl rfl rfl (by unfold maxLen; omega) (by rw [hz2]; omega) (by simp [Value.oneCell']) (by kernel_rfl) (Nat.zero_le _) (fun g2 cap2 => ?_)) | ((with_reducible show ∃ _, _); first | (refine ⟨q, by rw [htl]; omega, by rw [htl]; omega, ?_⟩)) | exact trivial)
    refine hI _ ⟨⟨i + 1 + 1, q, g2, cap2⟩, by dsimp only; omega, by dsimp only; omega, fun h => by dsimp only at h ⊢; omega, by dsimp only; omega⟩ (by dsimp only; omega) (by dsimp only [apJ32]; rw [← hrow _ rfl, ← htt]; ((with_reducible show wk _ _); repeat' (first | exact trivial | exact eqSV_refl _ | refine eqI ?_ | refine eqS ?_ | apply And.intro | exact yV | fail)); all_goals (exact fun b x h => h))
 ·obtain rfl : m = 0 := by omega
  simp only [List.drop_zero] at hV ⊢
  have hle := ExP.nd_le (b := 1000000000) (by omega) hV
  have hTR := fun a (cap : Nat) (w' : World) hc hs' => trim_any a i cap (ExP.valS s) w' hV hc (by omega) hs'
  cases i with
  | zero =>
    dsimp only [apJ32]
    have h0 : ExP.nd 1000000000 (ExP.valS s) = 0 := by omega
    have e : nv .u32 1000000000 (ExP.valS s) = [] := List.length_eq_zero_iff.1 (by rw [nv_len, h0])
    have hT := fun w' => hTR none 0 w' (Nat.le_refl _) (sl_nil _ _)
    rw [h0] at hT
    repeat' (first | refine yX ?_ | (apply And.intro <;> intro _) | apply bothI | refine retB fun β => ?_ | intro βe | refine yK (.any (.slice none 0 0)) (fun β w hm => hT w) ?_ | exact trivial)
    refine ret fun β w' hm => ?_
    exact ⟨none, 0, by rw [h0]; rfl, by rw [e]; exact sl_nil _ _, fun h => absurd e h, fun _ => rfl, by rw [h0]; exact Nat.le_refl _, hm.below⟩
  | succ i =>
    dsimp only [apJ32]
    repeat' (first | refine yX ?_ | (apply And.intro <;> intro _) | apply bothI | refine retB fun β => ?_ | intro βe | refine yK (.any (.slice (some ⟨g, 0, none⟩) (ExP.nd 1000000000 (ExP.valS s)) cap)) (fun β w hm => hTR (some ⟨g, 0, none⟩) cap w (Mem.own hm 1 rfl).2.2 (Mem.own hm 1 rfl).1) ?_ | exact trivial)
    refine ret fun β w' hm => ?_
    obtain ⟨q1, q2, q3⟩ := Mem.own hm 1 rfl
    exact ⟨_, cap, rfl, sl_pre q1 (dgN_pre hle .u32), fresh_own q2 rfl, (fun h => by cases h), Nat.le_trans hle q3, hm.below⟩
end Go.Proofs.YtdkhkfdenlabaaaGreatDoor
namespace Go.Proofs
end Go.Proofs
namespace Go.Proofs.YtdkhkfdenlabaaaGreatDoor
open Go.RowKit
open Sym
attribute [local irreducible] Calls Sym.AggEq ExP.nd ExP.dig ExP.upd
theorem dropWhile_nil {p : UInt8 → Bool} : ∀ l : List UInt8, l.dropWhile p = [] ↔ l.all p = true
 | [] => by simp
 | c :: r => by
   by_cases h : p c = true
   ·rw [List.dropWhile_cons_of_pos h, dropWhile_nil r, List.all_cons, h, Bool.true_and]
   ·rw [List.dropWhile_cons_of_neg h]; simp [h]
def decS : List UInt8 := [48, 49, 50, 51, 52, 53, 54, 55, 56, 57]
theorem dec_contains (c : UInt8) : decS.contains c = ExP.digC c := by
 have key : ∀ k : Fin 256, decS.contains (UInt8.ofNat k.val) = ExP.digC (UInt8.ofNat k.val) := by decide
 have hc : UInt8.ofNat c.toNat = c := by simp
 have := key ⟨c.toNat, c.toNat_lt⟩
 dsimp only at this
 rw [hc] at this
 exact this
theorem dropWhile_all {p : UInt8 → Bool} : ∀ l : List UInt8, (l.dropWhile p).all p = l.all p
 | [] => rfl
 | c :: r => by
   by_cases h : p c = true
   ·rw [List.dropWhile_cons_of_pos h, dropWhile_all r, List.all_cons, h, Bool.true_and]
   ·rw [List.dropWhile_cons_of_neg h]
theorem trim_nil (s : List UInt8) : Lib.trimS s decS = [] ↔ s.all ExP.digC = true := by
 have hp : (fun c => decS.contains c) = ExP.digC := funext dec_contains
 unfold Lib.trimS Lib.trimRightS Lib.trimLeftS
 rw [hp, dropWhile_nil, List.all_reverse, dropWhile_all, List.all_reverse]
theorem trim_any' (s : List UInt8) (w : World) (hs : s.length ≤ 9223372036854775807) : QC 84 #[.string (bstr s), .string (bstr decS)] w (.string (bstr (Lib.trimS s decS))) := by
 have := Any.strings_Trim_laid Tryz.lays160 (by kernel_rfl) (bstr s) (bstr decS) w (by rw [bstr_size]; exact hs) (by decide) (ascii_of_all (by decide))
 exact this
theorem digits_any (s : List UInt8) (w : World) (hs : s.length ≤ 9223372036854775807) : QC 185 #[.string (bstr s)] w (.bool (ExP.digitsP s)) := by
 have HT := fun w => trim_any' s w hs
 have ht := trim_nil s
 unfold ExP.digitsP
 generalize Lib.trimS s decS = u at *
 refine yE Tryz.func185 rfl Tryz.results185 Tryz.ntmps185 [] [] [.str s] w ?_
 cases s with
 | nil =>
   repeat' (first | refine yX ?_ | (apply And.intro <;> intro _) | apply bothI | refine retB fun β => ?_ | intro βe | exact trivial)
   all_goals rfl
 | cons c r =>
   have e0 : (c :: r).getD 0 0 = c := rfl
   by_cases h48 : c = 48
   ·subst h48
    have e1 : (((48 : UInt8) :: r).getD 0 0).toNat = 48 := rfl
    by_cases hr : 1 < ((48 : UInt8) :: r).length
    ·repeat' (first | refine yX ?_ | (apply And.intro <;> intro _) | apply bothI | refine retB fun β => ?_ | intro βe | ((with_reducible show ∃ _, _); first | (refine ⟨0, rfl, by simp, ?_⟩)) | exact trivial)
     all_goals first | (exfalso; omega) | (exfalso; simp_all; done) | skip
     all_goals (simp only [SV.den]; congr 1; simp only [List.isEmpty_cons, e0]; rw [decide_eq_false (by omega)]; rfl)
    ·repeat' (first | refine yX ?_ | (apply And.intro <;> intro _) | apply bothI | refine retB fun β => ?_ | intro βe | refine yK (.str u) (fun β w hm => HT w) ?_ | ((with_reducible show ∃ _, _); first | (refine ⟨0, rfl, by simp, ?_⟩)) | exact trivial)
     all_goals first | (exfalso; omega) | (exfalso; simp_all; done) | skip
     all_goals (simp only [SV.den]; congr 1; simp only [List.isEmpty_cons, e0]; rw [show decide (((48 : UInt8) :: r).length ≤ 1) = true from decide_eq_true (by omega), Bool.eq_iff_iff]; simpa using ht)
   ·have hn : ¬ c.toNat = 48 := fun e => h48 (UInt8.toNat_inj.1 e)
    have e1 : ((c :: r).getD 0 0).toNat = c.toNat := rfl
    repeat' (first | refine yX ?_ | (apply And.intro <;> intro _) | apply bothI | refine retB fun β => ?_ | intro βe | refine yK (.str u) (fun β w hm => HT w) ?_ | ((with_reducible show ∃ _, _); first | (refine ⟨0, rfl, by simp, ?_⟩)) | exact trivial)
    all_goals first | (exfalso; omega) | (exfalso; simp_all; done) | skip
    all_goals (simp only [SV.den]; congr 1; simp only [List.isEmpty_cons, e0]; rw [bne_iff_ne.2 h48, Bool.eq_iff_iff]; simpa using ht)
theorem cutM_prefix (s : List UInt8) : Lib.trimPrefix s [45] = (ExP.cutM s).1 ∧ Lib.hasPrefix s [45] = (ExP.cutM s).2 := by
 cases s with
 | nil => exact ⟨rfl, rfl⟩
 | cons c r =>
   by_cases h : c = 45
   ·subst h; simp [Lib.trimPrefix, Lib.hasPrefix, ExP.cutM]
   ·have h' : ¬ 45 = c := fun e => h e.symm
    simp [Lib.trimPrefix, Lib.hasPrefix, ExP.cutM, h, List.isPrefixOf, beq_eq_false_iff_ne.2 h']
theorem cutM_any (s : List UInt8) (w : World) : QC 54 #[.string (bstr s), .string (bstr [45])] w (.tuple #[.string (bstr (ExP.cutM s).1), .bool (ExP.cutM s).2]) := by
 refine (Tryz.strings_CutPrefix (bstr s) (bstr [45]) w).mono ?_
 rintro e w' ⟨h, rfl⟩
 refine ⟨?_, Below.refl _ _⟩
 rw [h, show (bstr s).data.toList = s from rfl, show (bstr [45]).data.toList = [45] from rfl, (cutM_prefix s).1, (cutM_prefix s).2]; rfl
theorem cutM_len (s : List UInt8) : (ExP.cutM s).1.length ≤ s.length := by
 unfold ExP.cutM; split <;> simp
def ExP.readV (f : ExP.Fr) : ExP.Num := if ExP.readE f = 0 then ExP.readN f else ⟨false, 0, 0⟩
theorem ExP.readV_bad {f : ExP.Fr} {e : Int} (h : ExP.readE f = e) (he : e ≠ 0) : ExP.readV f = ⟨false, 0, 0⟩ := if_neg (by rw [h]; exact he)
theorem ExP.nd_val {b : Nat} {s : List UInt8} (hb : 10 ≤ b) (h : s.all ExP.digC = true) : ExP.nd b (ExP.valS s) ≤ s.length :=
 ExP.nd_le (by omega) (Nat.lt_of_lt_of_le (ExP.val_lt s h) (Nat.pow_le_pow_left hb _))
theorem FrOutE0 {k : IntKind} {b : Nat} {x : ExP.Num} {err : Int} {w w' : World} (hx : x = ⟨false, 0, 0⟩) (hb : BW w w') : FrOutE k b x err w (.returned (.tuple #[.agg #[.bool false, .slice none 0 0, .slice none 0 0], .int .i64 err])) w' := by
 subst hx
 exact ⟨⟨false, 0, 0, none, 0, none, 0⟩, by simp [FrV.val, ExP.nd_zero], rfl, FrCap0, Ls0, hb⟩
theorem read_any (f : ExP.Fr) (w : World) (hw0 : 0 < w.heap.size) (h1 : f.1.length ≤ 9223372036854775807) (h2 : f.2.length ≤ 9223372036854775807) :
  Calls Tryz.prog 135 #[.agg #[.string (bstr f.1), .string (bstr f.2)]] w (FrOutE .u32 1000000000 (ExP.readV f) (ExP.readE f) w) := by
 obtain ⟨f1, f2⟩ := f
 dsimp only at *
 have hE : ExP.readE (f1, f2) = if ExP.digitsP (ExP.cutM f1).1 = false ∨ ExP.digitsP f2 = false ∨ f2 = [48] ∨ ((ExP.cutM f1).1 = [48] ∧ (ExP.cutM f1).2 = true) then 4
  else if 300 < (ExP.cutM f1).1.length ∨ 300 < f2.length then 3
  else if Nat.gcd (ExP.valS (ExP.cutM f1).1) (ExP.valS f2) ≠ 1 then 4 else 0 := rfl
 have hV : ExP.readE (f1, f2) = 0 → ExP.readV (f1, f2) = ⟨(ExP.cutM f1).2, ExP.valS (ExP.cutM f1).1, ExP.valS f2⟩ := fun h => if_pos h
 have hB := fun e => ExP.readV_bad (f := (f1, f2)) (e := e)
 have hC := fun w => cutM_any f1 w
 have hL := cutM_len f1
 generalize ExP.readV (f1, f2) = V at *
 generalize ExP.readE (f1, f2) = E at *
 generalize (ExP.cutM f1).1 = s at *
 generalize (ExP.cutM f1).2 = m at *
 have hD1 := fun w => digits_any s w (by omega)
 have hD2 := fun w => digits_any f2 w (by omega)
 have hs1 := fun h => ExP.digits_ne (s := s) h
 have hs2 := fun h => ExP.digits_ne (s := f2) h
 have hp2 := fun h => ExP.val_pos (s := f2) h
 generalize ExP.digitsP s = d1 at *
 generalize ExP.digitsP f2 = d2 at *
 refine yE Tryz.func135 rfl Tryz.results135 Tryz.ntmps135 [] [200006] [.agg [.str f1, .str f2]] w ?_
 by_cases hbad : d1 = false ∨ d2 = false ∨ f2 = [48] ∨ (s = [48] ∧ m = true)
 ·rw [if_pos hbad] at hE
  have hV0 := hB 4 hE (by decide)
  repeat' (first | refine yX ?_ | (apply And.intro <;> intro _) | apply bothI | refine retB fun β => ?_ | intro βe | refine yK (.tup [.str s, .bool m]) (fun β w hm => hC w) ?_ | refine yK (.bool d1) (fun β w hm => hD1 w) ?_ | refine yK (.bool d2) (fun β w hm => hD2 w) ?_ | exact trivial)
  all_goals first | (exfalso; simp_all; done) | skip
  all_goals refine ret fun β w' hm => ?_
  all_goals (rw [hE]; exact FrOutE0 hV0 hm.below)
 ·rw [if_neg hbad] at hE
  simp only [not_or, Bool.not_eq_false] at hbad
  obtain ⟨rfl, rfl, hz, hm0⟩ := hbad
  obtain ⟨-, ha1⟩ := hs1 rfl
  obtain ⟨-, ha2⟩ := hs2 rfl
  by_cases hlen : 300 < s.length ∨ 300 < f2.length
  ·rw [if_pos hlen] at hE
   have hV0 := hB 3 hE (by decide)
   repeat' (first | refine yX ?_ | (apply And.intro <;> intro _) | apply bothI | refine retB fun β => ?_ | intro βe | refine yK (.tup [.str s, .bool m]) (fun β w hm => hC w) ?_ | refine yK (.lit true) (fun β w hm => hD1 w) ?_ | refine yK (.lit true) (fun β w hm => hD2 w) ?_ | exact trivial)
   all_goals first | (exfalso; simp_all; done) | (exfalso; omega) | skip
   all_goals refine ret fun β w' hm => ?_
   all_goals (rw [hE]; exact FrOutE0 hV0 hm.below)
  ·rw [if_neg hlen] at hE
   have hP1 := fun w => parse_any s w (by omega) ha1
   have hP2 := fun w => parse_any f2 w (by omega) ha2
   have hn1 := ExP.nd_val (b := 1000000000) (by omega) ha1
   have hn2 := ExP.nd_val (b := 1000000000) (by omega) ha2
   have hv2 := hp2 rfl hz
   generalize ExP.valS s = x at *
   generalize ExP.valS f2 = y at *
   have hgn := ExP.nd_mono (b := 1000000000) (by omega) (Nat.gcd_le_right x hv2)
   repeat' (first | refine yX ?_ | (apply And.intro <;> intro _) | apply bothI | refine retB fun β => ?_ | intro βe | refine yK (.tup [.str s, .bool m]) (fun β w hm => hC w) ?_ | refine yK (.lit true) (fun β w hm => hD1 w) ?_ | refine yK (.lit true) (fun β w hm => hD2 w) ?_ | (refine callNat .u32 1000000000 x hw0 (by kernel_rfl) rfl (fun β w' hm => hP1 w') (fun a1 c1 q1 q2 q3 => ?_)) | (refine callNat .u32 1000000000 y hw0 (by kernel_rfl) rfl (fun β w' hm => hP2 w') (fun a2 c2 q4 q5 q6 => ?_)) | (refine callNatL (Lz x a1 (Lz y a2 [])) .u32 1000000000 (Nat.gcd x y) hw0 (by kernel_rfl) rfl (by repeat (first | exact apart_nil | refine apart_row 1 (Nat.le_of_ble_eq_true rfl) rfl ?_ | refine apart_row 2 (Nat.le_of_ble_eq_true rfl) rfl ?_ | refine apart_row 3 (Nat.le_of_ble_eq_true rfl) rfl ?_ | refine apart_row 4 (Nat.le_of_ble_eq_true rfl) rfl ?_ | refine apart_row 5 (Nat.le_of_ble_eq_true rfl) rfl ?_)) (fun β w' hm => common_any _ a1 a2 c1 c2 x y w' (Nat.lt_of_lt_of_le hw0 hm.base_le) (by omega) (by omega) q1 q2 q4 q5 Lz_in (fun h => Lz_mem (Lz_in h)) (ySl hm) (ySl hm)) (fun a3 c3 q7 q8 q9 => ?_)) | refine yK (.bool (decide (Nat.gcd x y = 1))) (fun β w hm => one_any a3 c3 _ w (by omega) (ySl hm)) ?_ | exact trivial)
   all_goals first | (exfalso; simp_all; done) | (exfalso; omega) | skip
   all_goals (refine ret fun β w' hm => ?_)
   all_goals first
    | (have hg : ¬ Nat.gcd x y = 1 := by simp_all
       rw [if_pos hg] at hE
       rw [hE]
       exact FrOutE0 (hB 4 hE (by decide)) hm.below)
    | (have hg : Nat.gcd x y = 1 := by simp_all
       rw [if_neg (not_not_intro hg)] at hE
       rw [hE, hV hE]
       exact ⟨⟨_, _, _, a1, c1, a2, c2⟩, rfl, rfl, ⟨q1, q4, q2, q5⟩, Ls2 (ySl hm) (yFr hm) (ySl hm) (yFr hm), hm.below⟩)
theorem LsA {k : IntKind} {b : Nat} {t u : FrV} {w w' : World} (h1 : ∀ p ∈ t.L k b, SlAt p.1 p.2 w' ∧ FreshX p.1 p.2 w) (h2 : ∀ p ∈ u.L k b, SlAt p.1 p.2 w' ∧ FreshX p.1 p.2 w) : ∀ p ∈ t.L k b ++ u.L k b, SlAt p.1 p.2 w' ∧ FreshX p.1 p.2 w := fun p hp => (List.mem_append.1 hp).elim (h1 p) (h2 p)
def ExP.bothE (f g : ExP.Fr) : Int := if ExP.readE f = 0 then ExP.readE g else ExP.readE f
def ExP.bothY (f g : ExP.Fr) : ExP.Num := if ExP.readE f = 0 then ExP.readV g else ExP.readV f
theorem check_any (f : ExP.Fr) (w : World) (hw0 : 0 < w.heap.size) (h1 : f.1.length ≤ 9223372036854775807) (h2 : f.2.length ≤ 9223372036854775807) :
  QC 70 #[.agg #[.string (bstr f.1), .string (bstr f.2)]] w (.int .i64 (ExP.readE f)) := by
 have R1 := fun (w' : World) (h : BW w w') => read_any f w' (Nat.lt_of_lt_of_le hw0 h.size) h1 h2
 obtain ⟨f1, f2⟩ := f
 dsimp only at *
 generalize ExP.readV (f1, f2) = V at *
 generalize ExP.readE (f1, f2) = E at *
 refine yE Tryz.func70 rfl Tryz.results70 Tryz.ntmps70 [] [] [.agg [.str f1, .str f2]] w ?_
 repeat' (first | refine yX ?_ | (apply And.intro <;> intro _) | apply bothI | refine retB fun β => ?_ | intro βe | (refine callFrE .u32 1000000000 V E hw0 (by kernel_rfl) rfl (fun β w' hm => R1 w' hm.below) (fun a1 c1 a2 c2 hcap => ?_)) | exact trivial)
 all_goals rfl
theorem both_any (f g : ExP.Fr) (w : World) (hw0 : 0 < w.heap.size) (h1 : f.1.length ≤ 9223372036854775807) (h2 : f.2.length ≤ 9223372036854775807) (h3 : g.1.length ≤ 9223372036854775807) (h4 : g.2.length ≤ 9223372036854775807) :
  Calls Tryz.prog 192 #[.agg #[.string (bstr f.1), .string (bstr f.2)], .agg #[.string (bstr g.1), .string (bstr g.2)]] w (FrOutEE .u32 1000000000 (ExP.readV f) (ExP.bothY f g) (ExP.bothE f g) w) := by
 have R1 := fun (w' : World) (h : BW w w') => read_any f w' (Nat.lt_of_lt_of_le hw0 h.size) h1 h2
 have R2 := fun (w' : World) (h : BW w w') => read_any g w' (Nat.lt_of_lt_of_le hw0 h.size) h3 h4
 have hB := fun e => ExP.readV_bad (f := f) (e := e)
 have hE : ExP.bothE f g = if ExP.readE f = 0 then ExP.readE g else ExP.readE f := rfl
 have hY : ExP.bothY f g = if ExP.readE f = 0 then ExP.readV g else ExP.readV f := rfl
 generalize ExP.bothE f g = E at *
 generalize ExP.bothY f g = Y at *
 obtain ⟨f1, f2⟩ := f
 obtain ⟨g1, g2⟩ := g
 dsimp only at *
 generalize ExP.readV (f1, f2) = V1 at *
 generalize ExP.readE (f1, f2) = E1 at *
 generalize ExP.readV (g1, g2) = V2 at *
 generalize ExP.readE (g1, g2) = E2 at *
 obtain ⟨m1, n1, d1⟩ := V1
 obtain ⟨m2, n2, d2⟩ := V2
 refine yE Tryz.func192 rfl Tryz.results192 Tryz.ntmps192 [] [200003, 200005] [.agg [.str f1, .str f2], .agg [.str g1, .str g2]] w ?_
 repeat' (first | refine yX ?_ | (apply And.intro <;> intro _) | apply bothI | refine retB fun β => ?_ | intro βe | (refine callFrE .u32 1000000000 ⟨m1, n1, d1⟩ E1 hw0 (by kernel_rfl) rfl (fun β w' hm => R1 w' hm.below) (fun a1 c1 a2 c2 hcap => ?_)) | (refine callFrE .u32 1000000000 ⟨m2, n2, d2⟩ E2 hw0 (by kernel_rfl) rfl (fun β w' hm => R2 w' hm.below) (fun b1 e1 b2 e2 hcap2 => ?_)) | exact trivial)
 all_goals refine ret fun β w' hm => ?_
 ·rename_i hne
  rw [if_neg hne] at hE hY
  cases hB _ rfl hne
  rw [hE, hY]
  exact ⟨⟨_, _, _, a1, c1, a2, c2⟩, ⟨_, _, _, a1, c1, a2, c2⟩, rfl, rfl, rfl, hcap, hcap, LsA Ls0 Ls0, hm.below⟩
 ·rename_i heq
  simp only [Decidable.not_not] at heq
  rw [if_pos heq] at hE hY
  rw [hE, hY]
  exact ⟨⟨_, _, _, a1, c1, a2, c2⟩, ⟨_, _, _, b1, e1, b2, e2⟩, rfl, rfl, rfl, hcap, hcap2, LsA (Ls2 (ySl hm) (yFr hm) (ySl hm) (yFr hm)) (Ls2 (ySl hm) (yFr hm) (ySl hm) (yFr hm)), hm.below⟩
abbrev frV (f : ExP.Fr) : Value := .agg #[.string (bstr f.1), .string (bstr f.2)]
def WrOut (f : ExP.Fr) (err : Int) (w : World) (e : Ending) (w' : World) : Prop := e = .returned (.tuple #[frV f, .int .i64 err]) ∧ BW w w'
theorem write_any (x : FrV) (w : World) (hw : XW w) (hw0 : 0 < w.heap.size) (hx : FrIn .u32 1000000000 x w) (hd : 0 < x.d)
  (hxn : ExP.nd 1000000000 x.n ≤ 1000000) (hxd : ExP.nd 1000000000 x.d ≤ 1000000) :
  Calls Tryz.prog 169 #[x.val 1000000000] w (WrOut (ExP.writeF x.num) (ExP.writeE x.num) w) := by
 obtain ⟨m, n, d, a, c, b, e⟩ := x
 obtain ⟨hx1, hx2, ⟨hx3, hx4, hx5, hx6⟩⟩ := hx
 dsimp only [FrV.num, FrV.val] at *
 have hz := fun w' => zero_any a (ExP.nd 1000000000 n) c w'
 have hF : ExP.writeF ⟨m, n, d⟩ = if n = 0 then ([48], [49]) else if (300 < (Lib.decDigits (n / Nat.gcd n d)).length ∨ 300 < (Lib.decDigits (d / Nat.gcd n d)).length) then ([], []) else (ExP.signP m (Lib.decDigits (n / Nat.gcd n d)), Lib.decDigits (d / Nat.gcd n d)) := rfl
 have hE : ExP.writeE ⟨m, n, d⟩ = if n = 0 then 0 else if (300 < (Lib.decDigits (n / Nat.gcd n d)).length ∨ 300 < (Lib.decDigits (d / Nat.gcd n d)).length) then 19 else 0 := rfl
 generalize ExP.writeF ⟨m, n, d⟩ = F at *
 generalize ExP.writeE ⟨m, n, d⟩ = E at *
 by_cases hn : n = 0
 ·rw [if_pos hn] at hF hE
  rw [show decide ((ExP.nd 1000000000 n : Int) = 0) = true from decide_eq_true (by rw [hn, ExP.nd_zero]; rfl)] at hz
  subst hF hE
  refine yE Tryz.func169 rfl Tryz.results169 Tryz.ntmps169 [] [] [.agg [.bool m, .any (.slice a (ExP.nd 1000000000 n) c), .any (.slice b (ExP.nd 1000000000 d) e)]] w ?_
  repeat' (first | refine yX ?_ | (apply And.intro <;> intro _) | apply bothI | refine retB fun β => ?_ | intro βe | refine yK (.lit true) (fun β w hm => hz w) ?_ | exact trivial)
  all_goals rfl
 ·rw [if_neg hn] at hF hE
  have hnp := Nat.pos_of_ne_zero hn
  rw [show decide ((ExP.nd 1000000000 n : Int) = 0) = false from decide_eq_false (by have := (ExP.nd_pos (b := 1000000000) (by omega)).2 hnp; omega)] at hz
  have hg := Nat.gcd_pos_of_pos_left d hnp
  have hgn := ExP.nd_mono (b := 1000000000) (by omega) (Nat.gcd_le_right n hd)
  have hG := fun (w' : World) (h : BW w w') => common_any (Lz n a (Lz d b [])) a b c e n d w' (Nat.lt_of_lt_of_le hw0 h.size) (by omega) (by omega) hx3 hx5 hx4 hx6 Lz_in (fun h => Lz_mem (Lz_in h)) (hx1.below h) (hx2.below h)
  generalize Nat.gcd n d = g at *
  have hq1 := ExP.nd_mono (b := 1000000000) (by omega) (Nat.div_le_self n g)
  have hq2 := ExP.nd_mono (b := 1000000000) (by omega) (Nat.div_le_self d g)
  have hT := fun (a : Option Addr) (cap x : Nat) (w' : World) (h : BW w w') => text_any a cap x w' (hw.below h)
  have hD1 := fun (a3 : Option Addr) c3 (w' : World) (h : BW w w') h2 => divide_any a a3 c c3 n g w' (Nat.lt_of_lt_of_le hw0 h.size) (by omega) (by omega) hg (hx1.below h) h2
  have hD2 := fun (a3 : Option Addr) c3 (w' : World) (h : BW w w') h2 => divide_any b a3 e c3 d g w' (Nat.lt_of_lt_of_le hw0 h.size) (by omega) (by omega) hg (hx2.below h) h2
  generalize n / g = q1 at *
  generalize d / g = q2 at *
  generalize n % g = r1 at *
  generalize d % g = r2 at *
  have hT1 := fun a cap w' h => hT a cap q1 w' h (by omega)
  have hT2 := fun a cap w' h => hT a cap q2 w' h (by omega)
  generalize Lib.decDigits q1 = s1 at *
  generalize Lib.decDigits q2 = s2 at *
  refine yE Tryz.func169 rfl Tryz.results169 Tryz.ntmps169 [] [200006] [.agg [.bool m, .any (.slice a (ExP.nd 1000000000 n) c), .any (.slice b (ExP.nd 1000000000 d) e)]] w ?_
  repeat' (first | refine yX ?_ | (apply And.intro <;> intro _) | apply bothI | refine retB fun β => ?_ | intro βe | refine yK (.lit false) (fun β w hm => hz w) ?_ | (refine callNatL (Lz n a (Lz d b [])) .u32 1000000000 g hw0 (by kernel_rfl) rfl (apart_old (Nat.le_of_ble_eq_true rfl) hx1 rfl (apart_old (Nat.le_of_ble_eq_true rfl) hx2 rfl apart_nil)) (fun β w' hm => hG w' hm.below) (fun a3 c3 h1 h2 h3 => ?_)) | (refine callNat2 .u32 1000000000 q1 r1 hw0 (by kernel_rfl) rfl (fun β w' hm => hD1 a3 c3 w' hm.below (hm.slB 2 rfl)) (fun qa qc ra rc k1 k2 k3 k4 k5 k6 => ?_)) | (refine callNat2 .u32 1000000000 q2 r2 hw0 (by kernel_rfl) rfl (fun β w' hm => hD2 a3 c3 w' hm.below (hm.slB 2 rfl)) (fun qb qd rb rd k7 k8 k9 k10 k11 k12 => ?_)) | refine yK (.str s1) (fun β w hm => hT1 qa qc w hm.below (hm.slF 3 rfl)) ?_ | refine yK (.str s2) (fun β w hm => hT2 qb qd w hm.below (hm.slF 5 rfl)) ?_ | exact trivial)
  all_goals first | (exfalso; omega) | skip
  all_goals first
   | (rw [if_pos (by omega)] at hF hE; subst hF hE; rfl)
   | (rw [if_neg (by omega)] at hF hE; subst hF hE; simp_all [SV.den, SV.dens, ExP.signP]; done)
end Go.Proofs.YtdkhkfdenlabaaaGreatDoor
