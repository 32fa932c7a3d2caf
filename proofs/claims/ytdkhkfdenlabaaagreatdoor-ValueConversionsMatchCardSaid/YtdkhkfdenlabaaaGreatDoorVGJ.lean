/- Values, the program: characters, texts,  -/
import Derived.Test.YtdkhkfdenlabaaaGreatDoorVGG
import Derived.Test.YtdkhkfdenlabaaaGreatDoorVGI
import Derived.Test.YtdkhkfdenlabaaaGreatDoorVGH
import Derived.Test.YtdkhkfdenlabaaaGreatDoorVGD
import Derived.Test.YtdkhkfdenlabaaaGreatDoorVGE
import Derived.Test.YtdkhkfdenlabaaaGreatDoorVGF
set_option linter.unusedSimpArgs false
set_option linter.unusedVariables false
set_option maxRecDepth 100000
set_option maxHeartbeats 64000000
namespace Go.Proofs.YtdkhkfdenlabaaaGreatDoor
open Go.Proofs.Tryz
section
open Go.RowKit
open Sym
attribute [local irreducible] Calls Sym.bM ae.nd ae.bu ae.upd ae.ak ae.ay
theorem Qz (c : Nat) (w : World) : QC 106 #[.int .i64 (c : Int)] w (.bool (af.o6 c)) := by
 refine yE func106 rfl results106 ntmps106 [] [] [.int .i64 (c : Int)] w ?_
 repeat' (first | exact ⟨⟩ | refine yG ?_ ?_ | intro _)
 all_goals (simp only [SV.den, af.o6]; congr 1; rw [Bool.eq_iff_iff]; simp; omega)
theorem O9 (c : Nat) (w : World) : QC 121 #[.int .i64 (c : Int)] w (.bool (af.o6 c)) := by
 refine yE func121 rfl results121 ntmps121 [] [] [.int .i64 (c : Int)] w ?_
 repeat' (first | exact ⟨⟩ | refine yG ?_ ?_ | intro _)
 all_goals (simp only [SV.den, af.o6]; congr 1; rw [Bool.eq_iff_iff]; simp; omega)
theorem decode_any (s : List UInt8) (w : World) (hw : XV w) : QC 105 #[.string (ah s)] w (.tuple #[.int .i32 ((af.dec s).1 : Nat), .int .i64 ((af.dec s).2 : Nat)]) := Tryz.utf8_DecodeRuneInString (ah s) w hw.utf
theorem mM (s : List UInt8) (w : World) (hw : XV w) (hs : s.length <= 9223372036854775807) : QC 53 #[.string (ah s)] w (.int .i64 (af.jV s)) := by
 have hE : af.jV s = if 32767 < s.length then 3 else if af.vG s then 0 else 23 := rfl
 have D := fun (t : List UInt8) (w' : World) (h : BW w w') => decode_any t w' (hw.below h)
 refine yE func53 rfl results53 ntmps53 [] [] [.str s] w ?_
 repeat' (first | exact ⟨⟩ | refine yG ?_ ?_ | intro _)
 all_goals first | (rw [hE, if_pos (by omega)]; rfl) | skip
 rw [if_neg (by omega)] at hE
 refine yZ (T := {t : List UInt8 // t.length <= s.length /\ af.vG t = af.vG s}) (fun t => ⟨[(0, .str t.1)], [], 0, 30⟩) (fun t => t.1.length) ⟨s, Nat.le_refl _, rfl⟩ [] [] (fun t I hI => ?_)
 obtain ⟨t, ht, hp⟩ := t
 dsimp only
 by_cases h0 : t = []
 ·subst h0
  rw [<- hp] at hE
  repeat' (first | exact ⟨⟩ | refine yG ?_ ?_ | intro _)
  all_goals first | (exfalso; simp_all; done) | (rw [hE]; rfl)
 ·have hst := af.EJ h0
  have hl := af.iL h0
  have hc := af.dec_lt h0
  obtain ⟨c, n, hcn⟩ : ∃ c n, af.dec t = (c, n) := ⟨_, _, rfl⟩
  have D1 := D t
  rw [hcn] at hst hl hc D1
  dsimp only at hst hl hc D1
  have bad : (c = 65533 /\ n = 1) \/ af.o6 c = false -> af.jV s = 23 := fun h => by
   rw [hE, <- hp, hst, if_pos (h.imp (fun h => by rw [h.1, h.2]) id)]; rfl
  have good : ¬ (c = 65533 /\ n = 1) -> af.o6 c = true -> af.vG (t.drop n) = af.vG s := fun h1 h2 => by
   rw [<- hp, hst, if_neg (fun h => h.elim (fun h => h1 ⟨congrArg Prod.fst h, congrArg Prod.snd h⟩) (fun h => by rw [h2] at h; cases h))]
  repeat' (first | exact ⟨⟩ | refine yG ?_ ?_ | refine yB (.bg [.int .i32 (c : Int), .int .i64 (n : Int)]) (fun _ => D1) ?_ | refine yK (.bool (af.o6 c)) (fun β w hm => Qz c w) ?_ | ((with_reducible show ∃ _, _); first | (refine ⟨n, rfl, hl.2, ?_⟩)) | intro _)
  all_goals first | (exfalso; clear D D1; simp_all; done) | (rw [bad (.inl ⟨by omega, by omega⟩)]; rfl) | (rw [bad (.inr (by clear D D1; simp_all))]; rfl) | (refine hI _ ⟨t.drop n, by rw [List.length_drop]; omega, good (by omega) (by clear D D1; simp_all)⟩ (by dsimp only; rw [List.length_drop]; omega) yW; done)
theorem Oy : ∀ i, i < 9 -> i ≠ 0 -> af.bD i ≠ [] := by decide
theorem Ro (i : Nat) (h : 1 <= i) (h1 : i < 9) : af.bD i ≠ [] := Oy i h1 (by omega)
def af.iF (c : Int) : List UInt8 := if c < 1 \/ 8 < c then [] else af.bD c.toNat
theorem qC (c : Int) : af.iF c = [] ↔ (c < 1 \/ 8 < c) := by
 unfold af.iF
 split
 ·rename_i h; simp [h]
 ·rename_i h
  have := Ro c.toNat (by omega) (by omega)
  simp only [h, iff_false]; exact this
theorem xQ (c : Int) (w : World) (hw : XV w) : QC 27 #[.int .i64 c] w (.string (ah (af.iF c))) := by
 by_cases h : c < 1 \/ 8 < c
 ·have e : af.iF c = [] := (qC c).2 h
  rw [e]
  refine yE func27 rfl results27 ntmps27 [] [] [.int .i64 c] w ?_
  repeat' (first | exact ⟨⟩ | refine yG ?_ ?_ | intro _)
  all_goals first | rfl | (exfalso; omega)
 ·obtain ⟨k, rfl⟩ : ∃ k : Nat, c = (k : Int) := ⟨c.toNat, by omega⟩
  have e : af.iF (k : Int) = af.bD k := by unfold af.iF; rw [if_neg h]; rfl
  have hc := fun (w' : World) (hb : BW w w') => (hw.below hb).Yw k (by omega)
  rw [e]
  generalize af.bD k = T at *
  refine yE func27 rfl results27 ntmps27 [] [] [.int .i64 (k : Int)] w ?_
  repeat' (first | exact ⟨⟩ | refine yG ?_ ?_ | refine yO (vK (j := k) rfl underlying81 (fun w => sizeOf9 w) (by omega)) ?_ | refine yO (v := .str T) (dh (fun w => isAgg9 w) (fun w' hb β => by rw [Nat.mul_one]; exact (congrArg _ (by simp [Addr.add]; omega)).trans (hc w' hb))) ?_ | intro _)
  all_goals first | rfl | (exfalso; omega)
theorem Cm (c : Int) (w : World) (hw : XR w) : QC 28 #[.int .i64 c] w (.string (ah (af.iF c))) := by
 by_cases h : c < 1 \/ 8 < c
 ·have e : af.iF c = [] := (qC c).2 h
  rw [e]
  refine yE func28 rfl results28 ntmps28 [] [] [.int .i64 c] w ?_
  repeat' (first | exact ⟨⟩ | refine yG ?_ ?_ | intro _)
  all_goals first | rfl | (exfalso; omega)
 ·obtain ⟨k, rfl⟩ : ∃ k : Nat, c = (k : Int) := ⟨c.toNat, by omega⟩
  have e : af.iF (k : Int) = af.bD k := by unfold af.iF; rw [if_neg h]; rfl
  have hc := fun (w' : World) (hb : BW w w') => (hw.below hb) k (by omega)
  rw [e]
  generalize af.bD k = T at *
  refine yE func28 rfl results28 ntmps28 [] [] [.int .i64 (k : Int)] w ?_
  repeat' (first | exact ⟨⟩ | refine yG ?_ ?_ | refine yO (vK (j := k) rfl underlying81 (fun w => sizeOf9 w) (by omega)) ?_ | refine yO (v := .str T) (dh (fun w => isAgg9 w) (fun w' hb β => by rw [Nat.mul_one]; exact (congrArg _ (by simp [Addr.add]; omega)).trans (hc w' hb))) ?_ | intro _)
  all_goals first | rfl | (exfalso; omega)
end
section
open Go.RowKit
open Sym
attribute [local irreducible] Calls Sym.bM ae.nd ae.bu
theorem kU : (Tryz.prog.info? 161).map (fun i => (i.zero, i.size, i.bytes)) = some (some (.int .u32 0), 1, 4) := by kernel_rfl
theorem one_any (a : Option Addr) (cap x : Nat) (w : World) (hl : ae.nd 1000000000 x <= 100000000) (hs : aS a (nv .u32 1000000000 x) w) : QC 187 #[.slice a (ae.nd 1000000000 x) cap] w (.bool (decide (x = 1))) := by
 have h1 := ae.Vz (b := 1000000000) (x := x) (by omega)
 refine yE func187 rfl results187 ntmps187 [] [] [.any (.slice a (ae.nd 1000000000 x) cap)] w ?_
 by_cases h : ae.nd 1000000000 x = 1
 ·obtain ⟨ad, rfl⟩ := aS.some hs (iJ (by omega))
  have hc := dW hs (i := 0) (eQ (by omega))
  generalize ae.nd 1000000000 x = n at *
  generalize ae.bu 1000000000 0 x = dd at *
  repeat' (first | exact ⟨⟩ | refine yG ?_ ?_ | refine yO (aJ underlying137) ?_ | refine yN (j := 0) underlying137 sizeOf161 ?_ | refine yO (v := .int .u32 (dd : Nat)) (dh (fun w => isAgg161 w) (fun w' hb β => by rw [Nat.zero_mul]; exact hc w' hb)) ?_ | intro _)
  show Value.bool (decide _) = _
  congr 1
  exact decide_eq_decide.2 (by omega)
 ·generalize ae.nd 1000000000 x = n at *
  repeat' (first | exact ⟨⟩ | refine yG ?_ ?_ | refine yO (aJ underlying137) ?_ | intro _)
  show Value.bool false = _
  congr 1
  exact (decide_eq_false (by omega)).symm
theorem jG (a b : Option Addr) (ca cb x y : Nat) (w : World) (hx : ae.nd 1000000000 x <= 100000000) (hy : ae.nd 1000000000 y <= 100000000) (hs : aS a (nv .u32 1000000000 x) w) (ht : aS b (nv .u32 1000000000 y) w) :
  QC 207 #[.slice a (ae.nd 1000000000 x) ca, .slice b (ae.nd 1000000000 y) cb] w (.int .i64 (ae.oM 1000000000 x y)) := by
 refine yE func207 rfl results207 ntmps207 [] [] [.any (.slice a (ae.nd 1000000000 x) ca), .any (.slice b (ae.nd 1000000000 y) cb)] w ?_
 by_cases hn : ae.nd 1000000000 x = ae.nd 1000000000 y
 ·have hxp := ae.dP (b := 1000000000) (by omega) x
  have hyp := ae.dP (b := 1000000000) (by omega) y
  have h0 : x / 1000000000 ^ ae.nd 1000000000 x = y / 1000000000 ^ ae.nd 1000000000 x := by rw [Nat.div_eq_of_lt hxp, hn, Nat.div_eq_of_lt hyp]
  have htop := fun j => ae.UH (b := 1000000000) (x := x) (y := y) (j := j) (by omega) hn
  have hnext := fun j => ae.Hq (b := 1000000000) (x := x) (y := y) (i := j) (by omega)
  have hcs := ae.QD (b := 1000000000) (x := x) (y := y)
  clear hxp hyp
  have hgx := fun i (h : i < ae.nd 1000000000 x) => eQ (k := .u32) h
  have D8 := fun i (h : i < ae.nd 1000000000 y) => eQ (k := .u32) h
  have hnx := iJ (k := .u32) (b := 1000000000) (x := x)
  have hny := iJ (k := .u32) (b := 1000000000) (x := y)
  rw [<- hn] at D8 hny ⊢
  generalize ae.nd 1000000000 x = n at *
  generalize ae.oM 1000000000 x y = cv at *
  repeat' (first | exact ⟨⟩ | refine yG ?_ ?_ | refine yO (aJ underlying137) ?_ | intro _)
  refine yZ (T := {j : Nat // j <= n /\ x / 1000000000 ^ j = y / 1000000000 ^ j}) (fun t => ⟨[(0, .any (.slice a n ca)), (1, .any (.slice b n cb)), (5, .int .i64 ((t.1 : Nat) - 1 : Int))], [], 0, 41⟩) (fun t => t.1) ⟨n, Nat.le_refl _, h0⟩ [] [] (fun t I hI => ?_)
  obtain ⟨j, hj, hxy⟩ := t
  dsimp only
  by_cases hj0 : j = 0
  ·subst hj0
   rw [hcs hxy]
   repeat' (first | exact ⟨⟩ | refine yG ?_ ?_ | intro _)
   all_goals rfl
  ·obtain ⟨i, rfl⟩ : ∃ i, j = i + 1 := ⟨j - 1, by omega⟩
   obtain ⟨ad, rfl⟩ := aS.some hs (hnx (by omega))
   obtain ⟨bd, rfl⟩ := aS.some ht (hny (by omega))
   have h1 := dW hs (hgx i (by omega))
   have h2 := dW ht (D8 i (by omega))
   have htop := htop i hxy
   have hnext := hnext i hxy
   generalize ae.bu 1000000000 i x = dx at *
   generalize ae.bu 1000000000 i y = dy at *
   repeat' (first | exact ⟨⟩ | refine yG ?_ ?_ | refine yO (aJ underlying137) ?_ | refine yN (j := i) underlying137 sizeOf161 ?_ | refine yO (v := .int .u32 (dx : Nat)) (dh (fun w => isAgg161 w) (fun w' hb β => by rw [Nat.mul_one]; exact h1 w' hb)) ?_ | refine yO (v := .int .u32 (dy : Nat)) (dh (fun w => isAgg161 w) (fun w' hb β => by rw [Nat.mul_one]; exact h2 w' hb)) ?_ | intro _)
   ·rw [htop (by omega), if_pos (by omega)]; rfl
   ·rw [htop (by omega), if_neg (by omega)]; rfl
   ·refine hI _ ⟨i, by omega, hnext (by omega)⟩ (by dsimp only; omega) yW
 ·have hcv : ae.oM 1000000000 x y = (ae.nd 1000000000 x : Int) - ae.nd 1000000000 y := by unfold ae.oM; rw [if_pos hn]
  rw [hcv]
  generalize ae.nd 1000000000 x = n at *
  generalize ae.nd 1000000000 y = m at *
  repeat' (first | exact ⟨⟩ | refine yG ?_ ?_ | refine yO (aJ underlying137) ?_ | intro _)
  all_goals rfl
structure ZK where
 i : Nat
 c : Nat
 S : Nat
 g : Nat
 cap : Nat
theorem rZ (a b : Option Addr) (ca cb x y : Nat) (w : World) (hx : ae.nd 1000000000 x <= 100000000) (hy : ae.nd 1000000000 y <= 100000000) (hs : aS a (nv .u32 1000000000 x) w) (ht : aS b (nv .u32 1000000000 y) w) :
  Calls Tryz.prog 206 #[.slice a (ae.nd 1000000000 x) ca, .slice b (ae.nd 1000000000 y) cb] w (iT .u32 1000000000 (x + y) w) := by
 obtain ⟨i0, hi, hz0, hz1, hz2⟩ := info_parts kU
 have hu := underlying137
 have hsz := fun w => sizeOf161 w
 have hzv := fun w => zeroValue161 w
 have hgx := fun i (h : i < ae.nd 1000000000 x) => eQ (k := .u32) h
 have D8 := fun i (h : i < ae.nd 1000000000 y) => eQ (k := .u32) h
 have hnx := iJ (k := .u32) (b := 1000000000) (x := x)
 have hny := iJ (k := .u32) (b := 1000000000) (x := y)
 have hbx := fun i => ae.vY (b := 1000000000) (i := i) (x := x) (by omega)
 have hby := fun i => ae.vY (b := 1000000000) (i := i) (x := y) (by omega)
 have hnext := fun {i c S} => ae.Ej (b := 1000000000) (x := x) (y := y) (i := i) (c := c) (S := S) (by omega)
 have hend := fun {i S} => ae.Ji (b := 1000000000) (x := x) (y := y) (i := i) (S := S) (by omega)
 have hcar := fun {i c S} => ae.BR (b := 1000000000) (x := x) (y := y) (i := i) (c := c) (S := S) (by omega)
 have hov := fun {i c S} => ae.Em (b := 1000000000) (x := x) (y := y) (i := i) (c := c) (S := S) (by omega)
 have tV := fun i => ae.dG (b := 1000000000) (by omega) i x
 have hdy := fun i => ae.dG (b := 1000000000) (by omega) i y
 refine yE func206 rfl results206 ntmps206 [] [] [.any (.slice a (ae.nd 1000000000 x) ca), .any (.slice b (ae.nd 1000000000 y) cb)] w ?_
 generalize ae.nd 1000000000 x = n at *
 generalize ae.nd 1000000000 y = m at *
 repeat' (first | exact ⟨⟩ | refine yG ?_ ?_ | (refine O6 (m := max n m + 1) rfl (by omega) rfl rfl hu hi hz0 hz1 rfl (by rw [hz2]; omega) (by unfold maxLen; omega) (fun g => ?_)) | refine yO (aJ underlying137) ?_ | intro _)
 refine loop bF rfl (T := {t : ZK // ae.Au 1000000000 x y t.i t.c t.S /\ t.i <= max n m + 1}) (fun t => ⟨[(0, .any (.slice a n ca)), (1, .any (.slice b m cb)), (5, .any (.slice (some ⟨t.1.g, 0, none⟩) t.1.i t.1.cap)), (6, .int .u32 (t.1.c : Nat)), (7, .int .i64 (t.1.i : Nat))], [(0, true, .aK (dN 161 1 t.1.g t.1.i t.1.cap (dC .u32 (ae.lI 1000000000 t.1.i t.1.S))))], 1, 61⟩) (fun t => max n m + 2 - t.1.i) ⟨⟨0, 0, 0, g, max n m + 1⟩, ⟨by simp [Nat.mod_one], by simp, .inl rfl⟩, Nat.zero_le _⟩ 1000 [] [] (fun _ => by exact Nat.zero_le _) yW (fun t I hI => ?_)
 obtain ⟨⟨i, c, S, g, cap⟩, hP, hib⟩ := t
 dsimp only at hP hib ⊢
 have hc := hcar hP
 have hS := hP.lt
 have hN := hnext hP
 have hE := fun (h : c = 0) => by subst h; exact hend hP
 have tV := tV i
 have hdy := hdy i
 have hrow := fun (v : Int) (d : Nat) (hd : d < 1000000000) (hv : v = (d : Int)) => ae.sH (k := .u32) (b := 1000000000) (i := i) (S := S) (by omega) hS hd hv
 have hgx := hgx i
 have D8 := D8 i
 have hbx := hbx i
 have hby := hby i
 have htop : i <= max n m \/ c = 0 := by
  rcases Nat.lt_or_ge (max n m) i with h | h
  ·exact .inr (hov hP (by omega) (by omega))
  ·exact .inl h
 clear hnext hend hcar hov
 generalize ae.bu 1000000000 i x = dx at *
 generalize ae.bu 1000000000 i y = dy at *
 by_cases h1 : i < n
 ·obtain ⟨ad, rfl⟩ := aS.some hs (hnx (by omega))
  have r1 := dW hs (hgx h1)
  by_cases h2 : i < m
  ·obtain ⟨bd, rfl⟩ := aS.some ht (hny (by omega))
   have r2 := dW ht (D8 h2)
   repeat' (first | exact ⟨⟩ | refine yG ?_ ?_ | (refine aI (sz := 1) rfl rfl rfl (xs := [.int .u32 (((c + dx + dy) % 1000000000 : Nat) : Int)]) (fun β => by simp [SV.aF, SV.den]) rfl (by omega) (by omega) hu hsz hzv (fun g1 => ?_)) | (refine fO (sz := 1) 0 1 rfl hu hi hz0 hz1 rfl (by omega) rfl rfl rfl rfl (by unfold maxLen; omega) (by rw [hz2]; omega) (by simp [Value.oneCell']) (by kernel_rfl) (Nat.zero_le _) (fun g2 cap2 => ?_)) | refine yO (aJ underlying137) ?_ | refine yN (j := i) underlying137 sizeOf161 ?_ | refine yO (v := .int .u32 (dx : Nat)) (dh (fun w => isAgg161 w) (fun w' hb β => by rw [Nat.mul_one]; exact r1 w' hb)) ?_ | refine yO (v := .int .u32 (dy : Nat)) (dh (fun w => isAgg161 w) (fun w' hb β => by rw [Nat.mul_one]; exact r2 w' hb)) ?_ | refine yO (jv (by omega) (by omega)) ?_ | refine yO (qh (by omega) (by omega) (by simp only [uu]; omega)) ?_ | intro _)
   refine hI _ ⟨⟨i + 1, (c + dx + dy) / 1000000000, S + (c + dx + dy) % 1000000000 * 1000000000 ^ i, g2, cap2⟩, hN (.inl h1), by dsimp only; omega⟩ (by dsimp only; omega) (by ((with_reducible show wk _ _); repeat' (first | exact trivial | exact au _ | refine eY ?_ | refine eqS ?_ | apply And.intro | exact yV | fail)); all_goals (rw [hrow _ ((c + dx + dy) % 1000000000) (by omega) (by rfl)]; exact fun b x h => h))
  ·have hy0 := hby (by omega)
   repeat' (first | exact ⟨⟩ | refine yG ?_ ?_ | (refine aI (sz := 1) rfl rfl rfl (xs := [.int .u32 (((c + dx) % 1000000000 : Nat) : Int)]) (fun β => by simp [SV.aF, SV.den]) rfl (by omega) (by omega) hu hsz hzv (fun g1 => ?_)) | (refine fO (sz := 1) 0 1 rfl hu hi hz0 hz1 rfl (by omega) rfl rfl rfl rfl (by unfold maxLen; omega) (by rw [hz2]; omega) (by simp [Value.oneCell']) (by kernel_rfl) (Nat.zero_le _) (fun g2 cap2 => ?_)) | refine yO (aJ underlying137) ?_ | refine yN (j := i) underlying137 sizeOf161 ?_ | refine yO (v := .int .u32 (dx : Nat)) (dh (fun w => isAgg161 w) (fun w' hb β => by rw [Nat.mul_one]; exact r1 w' hb)) ?_ | refine yO (jv (by omega) (by omega)) ?_ | refine yO (qh (by omega) (by omega) (by simp only [uu]; omega)) ?_ | intro _)
   refine hI _ ⟨⟨i + 1, (c + dx + dy) / 1000000000, S + (c + dx + dy) % 1000000000 * 1000000000 ^ i, g2, cap2⟩, hN (.inl h1), by dsimp only; omega⟩ (by dsimp only; omega) (by ((with_reducible show wk _ _); repeat' (first | exact trivial | exact au _ | refine eY ?_ | refine eqS ?_ | apply And.intro | exact yV | fail)); all_goals (rw [hrow _ ((c + dx + dy) % 1000000000) (by omega) (by rw [hy0]; rfl)]; exact fun b x h => h))
 ·have hx0 := hbx (by omega)
  by_cases h2 : i < m
  ·obtain ⟨bd, rfl⟩ := aS.some ht (hny (by omega))
   have r2 := dW ht (D8 h2)
   repeat' (first | exact ⟨⟩ | refine yG ?_ ?_ | (refine aI (sz := 1) rfl rfl rfl (xs := [.int .u32 (((c + dy) % 1000000000 : Nat) : Int)]) (fun β => by simp [SV.aF, SV.den]) rfl (by omega) (by omega) hu hsz hzv (fun g1 => ?_)) | (refine fO (sz := 1) 0 1 rfl hu hi hz0 hz1 rfl (by omega) rfl rfl rfl rfl (by unfold maxLen; omega) (by rw [hz2]; omega) (by simp [Value.oneCell']) (by kernel_rfl) (Nat.zero_le _) (fun g2 cap2 => ?_)) | refine yO (aJ underlying137) ?_ | refine yN (j := i) underlying137 sizeOf161 ?_ | refine yO (v := .int .u32 (dy : Nat)) (dh (fun w => isAgg161 w) (fun w' hb β => by rw [Nat.mul_one]; exact r2 w' hb)) ?_ | refine yO (jv (by omega) (by omega)) ?_ | refine yO (qh (by omega) (by omega) (by simp only [uu]; omega)) ?_ | intro _)
   refine hI _ ⟨⟨i + 1, (c + dx + dy) / 1000000000, S + (c + dx + dy) % 1000000000 * 1000000000 ^ i, g2, cap2⟩, hN (.inr (.inl h2)), by dsimp only; omega⟩ (by dsimp only; omega) (by ((with_reducible show wk _ _); repeat' (first | exact trivial | exact au _ | refine eY ?_ | refine eqS ?_ | apply And.intro | exact yV | fail)); all_goals (rw [hrow _ ((c + dx + dy) % 1000000000) (by omega) (by rw [hx0]; omega)]; exact fun b x h => h))
  ·have hy0 := hby (by omega)
   by_cases h3 : 0 < c
   ·repeat' (first | exact ⟨⟩ | refine yG ?_ ?_ | (refine aI (sz := 1) rfl rfl rfl (xs := [.int .u32 (((c) % 1000000000 : Nat) : Int)]) (fun β => by simp [SV.aF, SV.den]) rfl (by omega) (by omega) hu hsz hzv (fun g1 => ?_)) | (refine fO (sz := 1) 0 1 rfl hu hi hz0 hz1 rfl (by omega) rfl rfl rfl rfl (by unfold maxLen; omega) (by rw [hz2]; omega) (by simp [Value.oneCell']) (by kernel_rfl) (Nat.zero_le _) (fun g2 cap2 => ?_)) | refine yO (aJ underlying137) ?_ | refine yN (j := i) underlying137 sizeOf161 ?_ | refine yO (jv (by omega) (by omega)) ?_ | refine yO (qh (by omega) (by omega) (by simp only [uu]; omega)) ?_ | intro _)
    refine hI _ ⟨⟨i + 1, (c + dx + dy) / 1000000000, S + (c + dx + dy) % 1000000000 * 1000000000 ^ i, g2, cap2⟩, hN (.inr (.inr h3)), by dsimp only; omega⟩ (by dsimp only; omega) (by ((with_reducible show wk _ _); repeat' (first | exact trivial | exact au _ | refine eY ?_ | refine eqS ?_ | apply And.intro | exact yV | fail)); all_goals (rw [hrow _ ((c + dx + dy) % 1000000000) (by omega) (by rw [hx0, hy0]; omega)]; exact fun b x h => h))
   ·obtain ⟨rfl, rfl⟩ := hE (by omega) (by omega) (by omega)
    repeat' (first | exact ⟨⟩ | refine yG ?_ ?_ | refine yO (aJ underlying137) ?_ | intro _)
    refine ret fun β w' hm => ?_
    obtain ⟨q1, q2, q3⟩ := Mem.own hm 0 rfl
    exact ⟨_, cap, rfl, q1, bY q2 rfl, (fun h => by cases h), q3, hm.below⟩
theorem clone_any (ad : Addr) (n cap : Nat) (xs : List Value) (w : World) (hl : xs.length = n) (hn : n <= 100000000) (h1 : ∀ u ∈ xs, u.oneCell' = true) (hs : aS (some ad) xs w) :
  Calls Tryz.prog 233 #[.slice (some ad) n cap] w (Qj 161 n xs w) := by
 obtain ⟨i0, hi, hz0, hz1, hz2⟩ := info_parts kU
 have hu := underlying137
 have hsz := fun w => sizeOf161 w
 refine yE func233 rfl results233 ntmps233 [] [] [.any (.slice (some ad) n cap)] w ?_
 repeat' (first | refine yX ?_ | (apply And.intro <;> intro _) | apply gK | refine jO fun β => ?_ | intro βe | (refine Lm rfl hu hsz (fun g => ?_)) | (refine rY (sz := 1) 0 (ys := xs) rfl hu hi hz0 hz1 rfl (by omega) rfl rfl rfl (fun h => by cases h) (by rw [Nat.mul_one]; exact hl) (fun β w' hm => hs.below hm.below) (by unfold maxLen; omega) (by rw [hz2]; omega) h1 (by kernel_rfl) (Nat.zero_le _) (fun g2 cap2 => ?_)) | refine yO (N7 hu) ?_ | exact trivial)
 ·rename_i h; cases h
 ·refine ret fun β w' hm => ?_
  obtain ⟨q1, q2, q3⟩ := XB hm 0 rfl
  simp only [Nat.zero_add, List.nil_append] at q3
  exact ⟨g2, cap2, by simp [SV.den], q1, q2, q3, hm.below⟩
theorem pJ (a b : Option Addr) (ca cb x y : Nat) (w : World) (hx : ae.nd 1000000000 x <= 100000000) (hy : ae.nd 1000000000 y <= 100000000) (hyx : y <= x) (hca : a = none -> ca = 0) (hs : aS a (nv .u32 1000000000 x) w) (ht : aS b (nv .u32 1000000000 y) w) :
  Calls Tryz.prog 208 #[.slice a (ae.nd 1000000000 x) ca, .slice b (ae.nd 1000000000 y) cb] w (iT .u32 1000000000 (x - y) w) := by
 obtain ⟨i0, hi, hz0, hz1, hz2⟩ := info_parts kU
 have hu := underlying137
 have hsz := fun w => sizeOf161 w
 have hzv := fun w => zeroValue161 w
 cases a with
 | none =>
   have hx0 : x = 0 := by
    rcases Nat.eq_zero_or_pos x with h | h
    ·exact h
    ·obtain ⟨ad, e⟩ := aS.some hs (iJ ((ae.fM (by omega)).2 h)); cases e
   subst hx0
   obtain rfl : y = 0 := by omega
   obtain rfl := hca rfl
   refine yE func208 rfl results208 ntmps208 [] [] [.any (.slice none (ae.nd 1000000000 0) 0), .any (.slice b (ae.nd 1000000000 0) cb)] w ?_
   rw [ae.aT]
   have hCN : ∀ w, QC 233 #[.slice none 0 0] w (.slice none 0 0) := fun w => by
    refine yE func233 rfl results233 ntmps233 [] [] [.any (.slice none 0 0)] w ?_
    repeat' (first | exact ⟨⟩ | refine yG ?_ ?_ | refine yO (N7 hu) ?_ | intro _)
    all_goals rfl
   have hTN : ∀ w, QC 201 #[.slice none 0 0] w (.slice none (ae.nd 1000000000 0) 0) := fun w => lu none 0 0 0 w (by simp) (Nat.le_refl _) (by omega) (fun i v h => by simp [ae.lI, ae.tab, dC] at h)
   rw [ae.aT] at hTN
   repeat' (first | exact ⟨⟩ | refine yG ?_ ?_ | refine yA (.any (.slice none 0 0)) (fun _ => hCN) ?_ | refine yO (aJ underlying137) ?_ | intro _)
   refine yZ (T := Unit) (fun _ => ⟨[(5, .any (.slice none 0 0)), (12, .int .i64 0), (13, .int .i64 0)], [], 0, 49⟩) (fun _ => 0) () [] [] (fun t I hI => ?_)
   repeat' (first | exact ⟨⟩ | refine yG ?_ ?_ | refine yA (.any (.slice none 0 0)) (fun _ => hTN) ?_ | intro _)
   refine ret fun β w' hm => ?_
   exact ⟨none, 0, by simp only [Nat.sub_zero, ae.aT]; rfl, fun i v h => by simp [nv, ae.dg, ae.lI, ae.tab, dC, ae.aT] at h, fun h => absurd (by simp [nv, ae.dg, ae.lI, ae.tab, dC, ae.aT]) h, fun _ => rfl, by rw [Nat.sub_zero, ae.aT]; exact Nat.le_refl _, hm.below⟩
 | some ad =>
   have D8 := fun i (h : i < ae.nd 1000000000 y) => eQ (k := .u32) h
   have hny := iJ (k := .u32) (b := 1000000000) (x := y)
   have hby := fun i => ae.vY (b := 1000000000) (i := i) (x := y) (by omega)
   have tV := fun i => ae.dG (b := 1000000000) (by omega) i x
   have hdy := fun i => ae.dG (b := 1000000000) (by omega) i y
   have hyl : ae.nd 1000000000 y <= ae.nd 1000000000 x := by
    rcases Nat.lt_or_ge (ae.nd 1000000000 x) (ae.nd 1000000000 y) with h | h
    ·have := ae.tY (b := 1000000000) (by omega) h; omega
    ·exact h
   have hHC := fun w' hb => clone_any ad (ae.nd 1000000000 x) ca (nv .u32 1000000000 x) w' (jT _ _ _) hx (yM _ _) (aS.below hs hb)
   have Xn := ae.dP (b := 1000000000) (by omega) x
   refine yE func208 rfl results208 ntmps208 [] [] [.any (.slice (some ad) (ae.nd 1000000000 x) ca), .any (.slice b (ae.nd 1000000000 y) cb)] w ?_
   have hnvx : nv .u32 1000000000 x = dC .u32 (ae.uw 1000000000 (ae.nd 1000000000 x) 0 0 x) := by rw [ae.RN]; rfl
   rw [hnvx] at hHC
   have hTR := fun g (cap V : Nat) (w' : World) (hV : V < 1000000000 ^ ae.nd 1000000000 x) hc hs' => lu (some ⟨g, 0, none⟩) (ae.nd 1000000000 x) cap V w' hV hc hx hs'
   generalize ae.nd 1000000000 x = n at *
   generalize ae.nd 1000000000 y = m at *
   repeat' (first | exact ⟨⟩ | refine yG ?_ ?_ | (refine Uy 161 n (dC .u32 (ae.uw 1000000000 n 0 0 x)) (by kernel_rfl) rfl (fun β w' hm => hHC w' hm.below) (fun g cap => ?_)) | refine yO (aJ underlying137) ?_ | intro _)
   refine loop bF rfl (T := {t : Nat × Nat × Nat // t.1 <= n /\ ae.uI 1000000000 x y t.1 t.2.1 t.2.2}) (fun t => ⟨[(1, .any (.slice b m cb)), (5, .any (.slice (some ⟨g, 0, none⟩) n cap)), (6, .int .u32 (t.1.2.1 : Nat)), (12, .int .i64 (n : Nat)), (13, .int .i64 (t.1.1 : Nat))], [(0, true, .aK (dN 161 1 g n cap (dC .u32 (ae.uw 1000000000 n t.1.1 t.1.2.2 x))))], 1, 49⟩) (fun t => n - t.1.1) ⟨(0, 0, 0), Nat.zero_le _, ⟨by simp [Nat.mod_one], by simp, by simp⟩⟩ 1000 [] [] (fun _ => by exact Nat.zero_le _) yW (fun t I hI => ?_)
   obtain ⟨⟨i, c, D⟩, hin, hM⟩ := t
   dsimp only at hin hM ⊢
   have hc := hM.bit
   have hDl := hM.lt
   by_cases hlt : i < n
   ·have hn1 := ae.BH (b := 1000000000) (by omega) hM
    have hn0 := ae.zH (b := 1000000000) (by omega) hM
    have hset := fun d hd => ae.Vm (b := 1000000000) (n := n) (i := i) (D := D) (x := x) (d := d) (by omega) hDl hd
    have hget := ae.Vj (b := 1000000000) (n := n) (i := i) (D := D) (x := x) hlt
    have tV := tV i
    have hdy := hdy i
    have D8 := D8 i
    have hby := hby i
    generalize ae.bu 1000000000 i x = dx at *
    generalize ae.bu 1000000000 i y = dy at *
    have hgv := iH (k := .u32) hget
    have hlen : (dC .u32 (ae.uw 1000000000 n i D x)).length = n := by rw [kN, ae.Vk]
    generalize hXS : dC .u32 (ae.uw 1000000000 n i D x) = XS at *
    have hfin : ∀ d : Nat, d < 1000000000 -> XS.set i (.int .u32 (d : Int)) = dC .u32 (ae.uw 1000000000 n (i + 1) (D + d * 1000000000 ^ i) x) := fun d hd => by rw [<- hXS, ji, hset d hd]
    by_cases hm : i < m
    ·obtain ⟨bd, rfl⟩ := aS.some ht (hny (by omega))
     have r2 := dW ht (D8 hm)
     repeat' (first | exact ⟨⟩ | refine yG ?_ ?_ | (refine fH bF 0 (v := .int .u32 ((dx : Nat) + 1000000000)) (u := .int .u32 ((dx : Nat) + 1000000000)) rfl rfl rfl rfl (fun β => rfl) rfl rfl (by omega) ?_) | (refine fH bF 0 (v := .int .u32 ((dx : Nat) + 1000000000 - ((c : Nat) + (dy : Nat)))) (u := .int .u32 ((dx + 1000000000 - (c + dy) : Nat) : Int)) rfl rfl rfl rfl (fun β => by simp [SV.den]; omega) rfl rfl (by omega) ?_) | (refine fH bF 0 (v := .int .u32 ((dx : Nat) - ((c : Nat) + (dy : Nat)))) (u := .int .u32 ((dx - (c + dy) : Nat) : Int)) rfl rfl rfl rfl (fun β => by simp [SV.den]; omega) rfl rfl (by omega) ?_) | refine yO (aJ underlying137) ?_ | refine yN (j := i) underlying137 sizeOf161 ?_ | refine yO (v := .int .u32 (dy : Nat)) (dh (fun w => isAgg161 w) (fun w' hb β => by rw [Nat.mul_one]; exact r2 w' hb)) ?_ | refine yO (v := .int .u32 (dx : Nat)) (kW 0 (.int .u32 (dx : Nat)) (fun w => isAgg161 w) rfl (fun β => by rw [Nat.mul_one]; exact hgv)) ?_ | refine yO (v := .int .u32 ((dx : Nat) + 1000000000)) (kW 0 (.int .u32 ((dx : Nat) + 1000000000)) (fun w => isAgg161 w) rfl (fun β => by rw [Nat.mul_one, List.getElem?_set_self (by omega)]; rfl)) ?_ | intro _)
     all_goals first | (refine hI _ ⟨(i + 1, 1, D + (dx + 1000000000 - (c + dy)) * 1000000000 ^ i), by dsimp only; omega, hn1 (by omega)⟩ (by dsimp only; omega) (by ((with_reducible show wk _ _); repeat' (first | exact trivial | exact au _ | refine eY ?_ | refine eqS ?_ | apply And.intro | exact yV | fail)); all_goals (simp only [Nat.mul_one, List.set_set]; rw [hfin _ (by omega)]; exact fun b x h => h)); done) | (refine hI _ ⟨(i + 1, 0, D + (dx - (c + dy)) * 1000000000 ^ i), by dsimp only; omega, hn0 (by omega)⟩ (by dsimp only; omega) (by ((with_reducible show wk _ _); repeat' (first | exact trivial | exact au _ | refine eY ?_ | refine eqS ?_ | apply And.intro | exact yV | fail)); all_goals (simp only [Nat.mul_one, List.set_set]; rw [hfin _ (by omega)]; exact fun b x h => h)); done)
    ·have hy0 := hby (by omega)
     repeat' (first | exact ⟨⟩ | refine yG ?_ ?_ | (refine fH bF 0 (v := .int .u32 ((dx : Nat) + 1000000000)) (u := .int .u32 ((dx : Nat) + 1000000000)) rfl rfl rfl rfl (fun β => rfl) rfl rfl (by omega) ?_) | (refine fH bF 0 (v := .int .u32 ((dx : Nat) + 1000000000 - (c : Nat))) (u := .int .u32 ((dx + 1000000000 - (c + dy) : Nat) : Int)) rfl rfl rfl rfl (fun β => by simp [SV.den]; omega) rfl rfl (by omega) ?_) | (refine fH bF 0 (v := .int .u32 ((dx : Nat) - (c : Nat))) (u := .int .u32 ((dx - (c + dy) : Nat) : Int)) rfl rfl rfl rfl (fun β => by simp [SV.den]; omega) rfl rfl (by omega) ?_) | refine yO (aJ underlying137) ?_ | refine yN (j := i) underlying137 sizeOf161 ?_ | refine yO (v := .int .u32 (dx : Nat)) (kW 0 (.int .u32 (dx : Nat)) (fun w => isAgg161 w) rfl (fun β => by rw [Nat.mul_one]; exact hgv)) ?_ | refine yO (v := .int .u32 ((dx : Nat) + 1000000000)) (kW 0 (.int .u32 ((dx : Nat) + 1000000000)) (fun w => isAgg161 w) rfl (fun β => by rw [Nat.mul_one, List.getElem?_set_self (by omega)]; rfl)) ?_ | intro _)
     all_goals first | (refine hI _ ⟨(i + 1, 1, D + (dx + 1000000000 - (c + dy)) * 1000000000 ^ i), by dsimp only; omega, hn1 (by omega)⟩ (by dsimp only; omega) (by ((with_reducible show wk _ _); repeat' (first | exact trivial | exact au _ | refine eY ?_ | refine eqS ?_ | apply And.intro | exact yV | fail)); all_goals (simp only [Nat.mul_one, List.set_set]; rw [hfin _ (by omega)]; exact fun b x h => h)); done) | (refine hI _ ⟨(i + 1, 0, D + (dx - (c + dy)) * 1000000000 ^ i), by dsimp only; omega, hn0 (by omega)⟩ (by dsimp only; omega) (by ((with_reducible show wk _ _); repeat' (first | exact trivial | exact au _ | refine eY ?_ | refine eqS ?_ | apply And.intro | exact yV | fail)); all_goals (simp only [Nat.mul_one, List.set_set]; rw [hfin _ (by omega)]; exact fun b x h => h)); done)
   ·obtain rfl : i = n := by omega
    obtain ⟨rfl, -⟩ := ae.Ec (b := 1000000000) (by omega) hM Xn hyx
    rw [ae.Vh]
    repeat' (first | exact ⟨⟩ | refine yG ?_ ?_ | refine yK (.any (.slice (some ⟨g, 0, none⟩) (ae.nd 1000000000 (x - y)) cap)) (fun β w hm => hTR g cap (x - y) w hDl (Mem.own hm 0 rfl).2.2 (Mem.own hm 0 rfl).1) ?_ | refine yO (aJ underlying137) ?_ | intro _)
    refine ret fun β w' hm => ?_
    obtain ⟨q1, q2, q3⟩ := Mem.own hm 0 rfl
    have hle := ae.dX (b := 1000000000) (by omega) hDl
    exact ⟨_, cap, rfl, kK q1 (ja hle .u32), bY q2 rfl, (fun h => by cases h), Nat.le_trans hle q3, hm.below⟩
end
section
open Go.RowKit
open Sym
attribute [local irreducible] Calls Sym.bM ae.nd ae.bu ae.upd
theorem ug {k : IntKind} (b n : Nat) : List.replicate n (Value.int k 0) = dC k (ae.lI b n 0) := by
 apply List.ext_getElem?
 intro i
 by_cases h : i < n
 ·rw [iH (ae.kQ b n 0 i h)]
  have : ae.bu b i 0 = 0 := by unfold ae.bu; simp
  simp [h, this]
 ·rw [List.getElem?_eq_none (by simpa using h), List.getElem?_eq_none (by rw [kN, ae.nY]; omega)]
theorem times_any (a b : Option Addr) (ca cb x y : Nat) (w : World) (hx : ae.nd 1000000000 x <= 40000000) (hy : ae.nd 1000000000 y <= 40000000) (hs : aS a (nv .u32 1000000000 x) w) (ht : aS b (nv .u32 1000000000 y) w) :
  Calls Tryz.prog 168 #[.slice a (ae.nd 1000000000 x) ca, .slice b (ae.nd 1000000000 y) cb] w (iT .u32 1000000000 (x * y) w) := by
 obtain ⟨i0, hi, hz0, hz1, hz2⟩ := info_parts kU
 have hu := underlying137
 have hgx := fun i (h : i < ae.nd 1000000000 x) => eQ (k := .u32) h
 have D8 := fun i (h : i < ae.nd 1000000000 y) => eQ (k := .u32) h
 have hnx := iJ (k := .u32) (b := 1000000000) (x := x)
 have hny := iJ (k := .u32) (b := 1000000000) (x := y)
 have tV := fun i => ae.dG (b := 1000000000) (by omega) i x
 have hdy := fun i => ae.dG (b := 1000000000) (by omega) i y
 have hxl := ae.dP (b := 1000000000) (by omega) x
 have hyl := ae.dP (b := 1000000000) (by omega) y
 have hTR := fun g (V : Nat) (w' : World) (hV : V < 1000000000 ^ (ae.nd 1000000000 x + ae.nd 1000000000 y)) hs' => lu (some ⟨g, 0, none⟩) (ae.nd 1000000000 x + ae.nd 1000000000 y) (ae.nd 1000000000 x + ae.nd 1000000000 y) V w' hV (Nat.le_refl _) (by omega) hs'
 refine yE func168 rfl results168 ntmps168 [] [] [.any (.slice a (ae.nd 1000000000 x) ca), .any (.slice b (ae.nd 1000000000 y) cb)] w ?_
 generalize ae.nd 1000000000 x = n at *
 generalize ae.nd 1000000000 y = m at *
 repeat' (first | exact ⟨⟩ | refine yG ?_ ?_ | (refine pM (m := n + m) rfl (by omega) rfl rfl hu hi hz0 hz1 rfl (by rw [hz2]; omega) (by unfold maxLen; omega) (fun g => ?_)) | refine yO (aJ underlying137) ?_ | intro _)
 rw [ug 1000000000]
 refine loop bF rfl (T := {t : Nat × Nat // t.1 <= n /\ ae.qV 1000000000 x y m t.1 0 0 t.2}) (fun t => ⟨[(0, .any (.slice a n ca)), (1, .any (.slice b m cb)), (5, .any (.slice (some ⟨g, 0, none⟩) (n + m) (n + m))), (18, .any (.slice a n ca)), (19, .int .i64 (n : Nat)), (20, .int .i64 (t.1.1 : Nat))], [(0, true, .aK (dN 161 1 g (n + m) (n + m) (dC .u32 (ae.lI 1000000000 (n + m) t.1.2))))], 1, 69⟩) (fun t => n - t.1.1) ⟨(0, 0), Nat.zero_le _, ae.JV (by omega)⟩ 1000 [] [] (fun _ => by exact Nat.zero_le _) yW (fun t I hI => ?_)
 obtain ⟨⟨i, V⟩, hin, hT⟩ := t
 dsimp only at hin hT ⊢
 by_cases hlt : i < n
 ·obtain ⟨ad, rfl⟩ := aS.some hs (hnx (by omega))
  have r1 := dW hs (hgx i hlt)
  have Z8 := tV i
  have hstep := fun {k c V nn} (h : ae.qV 1000000000 x y m i k c V) (hk : k < m) (hn : nn = ae.bu 1000000000 i x * ae.bu 1000000000 k y + ae.bu 1000000000 (i + k) V + c) => ae.Md (by omega) h hk hn
  generalize hdd : ae.bu 1000000000 i x = dx at *
  repeat' (first | exact ⟨⟩ | refine yG ?_ ?_ | refine yO (aJ underlying137) ?_ | refine yN (j := i) underlying137 sizeOf161 ?_ | refine yO (v := .int .u32 (dx : Nat)) (dh (fun w => isAgg161 w) (fun w' hb β => by rw [Nat.mul_one]; exact r1 w' hb)) ?_ | intro _)
  refine loop bF rfl (T := {t : Nat × Nat × Nat // t.1 <= m /\ ae.qV 1000000000 x y m i t.1 t.2.1 t.2.2}) (fun t => ⟨[(0, .any (.slice (some ad) n ca)), (1, .any (.slice b m cb)), (5, .any (.slice (some ⟨g, 0, none⟩) (n + m) (n + m))), (6, .int .i64 (i : Nat)), (7, .int .u32 (dx : Nat)), (8, .int .u64 (t.1.2.1 : Nat)), (18, .any (.slice (some ad) n ca)), (19, .int .i64 (n : Nat)), (20, .int .i64 (i : Nat)), (25, .any (.slice b m cb)), (26, .int .i64 (m : Nat)), (27, .int .i64 (t.1.1 : Nat))], [(0, true, .aK (dN 161 1 g (n + m) (n + m) (dC .u32 (ae.lI 1000000000 (n + m) t.1.2.2))))], 1, 69⟩) (fun t => m - t.1.1) ⟨(0, 0, V), Nat.zero_le _, hT⟩ 1000 [] [] (fun _ => by exact Nat.zero_le _) yW (fun t I2 hI2 => ?_)
  obtain ⟨⟨k, c, U⟩, hkm, hT2⟩ := t
  dsimp only at hkm hT2 ⊢
  have hcb := hT2.bit
  by_cases hlk : k < m
  ·obtain ⟨bd, rfl⟩ := aS.some ht (hny (by omega))
   have r2 := dW ht (D8 k hlk)
   have Z9 := hdy k
   have hdv := ae.dG (b := 1000000000) (by omega) (i + k) U
   have r3 := iH (k := .u32) (ae.kQ 1000000000 (n + m) U (i + k) (by omega))
   have hst := fun nn => hstep (nn := nn) hT2 hlk
   have hset := fun d (hd : d < 1000000000) => ae.qp (b := 1000000000) (n := n + m) (V := U) (j := i + k) (d := d) (by omega) hd
   generalize ae.bu 1000000000 k y = dy at *
   generalize ae.bu 1000000000 (i + k) U = dv at *
   obtain ⟨nn, hnn⟩ : ∃ nn, nn = dx * dy + dv + c := ⟨_, rfl⟩
   have hst := hst nn hnn
   have YU : (dx : Int) * (dy : Int) + (dv : Int) + (c : Int) = (nn : Int) := by rw [hnn]; simp
   have hp0 : 0 <= (dx : Int) * (dy : Int) := Int.mul_nonneg (by omega) (by omega)
   have hp1 : (dx : Int) * (dy : Int) <= 999999998000000001 := by
    have : dx * dy <= 999999999 * 999999999 := Nat.mul_le_mul (by omega) (by omega)
    have h2 : ((dx * dy : Nat) : Int) <= 999999998000000001 := by omega
    simpa using h2
   repeat' (first | exact ⟨⟩ | refine yG ?_ ?_ | (refine fH bF 0 (u := .int .u32 ((nn % 1000000000 : Nat) : Int)) rfl rfl rfl rfl (fun β => by simp only [SV.den]; rw [YU]; rfl) rfl rfl (by omega) ?_) | refine yO (aJ underlying137) ?_ | refine yN (j := k) underlying137 sizeOf161 ?_ | refine yN (j := i + k) underlying137 sizeOf161 ?_ | refine yO (v := .int .u32 (dy : Nat)) (dh (fun w => isAgg161 w) (fun w' hb β => by rw [Nat.mul_one]; exact r2 w' hb)) ?_ | refine yO (v := .int .u32 (dv : Nat)) (kW 0 (.int .u32 (dv : Nat)) (fun w => isAgg161 w) rfl (fun β => by rw [Nat.mul_one]; exact r3)) ?_ | refine yO (jv (by omega) (by omega)) ?_ | refine yO (qh (by omega) (by omega) (by simp only [uu]; omega)) ?_ | intro _)
   refine hI2 _ ⟨(k + 1, nn / 1000000000, ae.upd 1000000000 U (i + k) (nn % 1000000000)), by dsimp only; omega, hst⟩ (by dsimp only; omega) (by rw [YU]; ((with_reducible show wk _ _); repeat' (first | exact trivial | exact au _ | refine eY ?_ | refine eqS ?_ | apply And.intro | exact yV | fail)); all_goals (rw [Nat.mul_one, ji, hset _ (Nat.mod_lt _ (by omega))]; exact fun b x h => h))
  ·obtain rfl : k = m := by omega
   obtain ⟨e1, e2⟩ := ae.PZ (by omega) hT2 hyl
   have hset := ae.qp (b := 1000000000) (n := n + k) (V := U) (j := i + k) (d := c) (by omega) hcb
   repeat' (first | exact ⟨⟩ | refine yG ?_ ?_ | (refine fH bF 0 (u := .int .u32 (c : Nat)) rfl rfl rfl rfl (fun β => rfl) rfl rfl (by omega) ?_) | refine yO (aJ underlying137) ?_ | refine yN (j := i + k) underlying137 sizeOf161 ?_ | intro _)
   refine hI _ ⟨(i + 1, ae.upd 1000000000 U (i + k) c), by dsimp only; omega, e2⟩ (by dsimp only; omega) (by ((with_reducible show wk _ _); repeat' (first | exact trivial | exact au _ | refine eY ?_ | refine eqS ?_ | apply And.intro | exact yV | fail)); all_goals (rw [Nat.mul_one, ji, hset]; exact fun b x h => h))
 ·obtain rfl : i = n := by omega
  have e := hT.eq
  rw [Nat.mod_eq_of_lt hxl] at e
  obtain rfl : V = x * y := by simp [Nat.mod_one] at e; exact e
  have hl := hT.lt
  repeat' (first | exact ⟨⟩ | refine yG ?_ ?_ | refine yK (.any (.slice (some ⟨g, 0, none⟩) (ae.nd 1000000000 (x * y)) (i + m))) (fun β w hm => hTR g (x * y) w hl (Mem.own hm 0 rfl).1) ?_ | intro _)
  refine ret fun β w' hm => ?_
  obtain ⟨q1, q2, q3⟩ := Mem.own hm 0 rfl
  have hle := ae.dX (b := 1000000000) (by omega) hl
  exact ⟨_, i + m, rfl, kK q1 (ja hle .u32), bY q2 rfl, (fun h => by cases h), hle, hm.below⟩
theorem one_row {m : Nat} (h : m < 1000000000) : dC .u32 (ae.lI 1000000000 1 m) = [.int .u32 (m : Nat)] := by rw [ae.rD h]; rfl
theorem Oq (a b : Option Addr) (ca cb r y : Nat) (w : World) (hw0 : 0 < w.heap.size) (hx : ae.nd 1000000000 r <= 20000000) (hy : ae.nd 1000000000 y <= 20000000) (hy0 : 0 < y) (hr : r < y * 1000000000) (hs : aS a (nv .u32 1000000000 r) w) (ht : aS b (nv .u32 1000000000 y) w) :
  QC 227 #[.slice a (ae.nd 1000000000 r) ca, .slice b (ae.nd 1000000000 y) cb] w (.int .u32 ((r / y : Nat) : Int)) := by
 have hu := underlying137
 have hsz := fun w => sizeOf161 w
 have hzv := fun w => zeroValue161 w
 have HC := fun w' hb => jG a b ca cb r y w' (by omega) (by omega) (aS.below hs hb) (aS.below ht hb)
 have hsg := (ae.Ae 1000000000 (x := r) (y := y) (by omega)).1
 generalize hcv : ae.oM 1000000000 r y = cv at *
 by_cases hlt : r < y
 ·rw [Nat.div_eq_of_lt hlt]
  refine yE func227 rfl results227 ntmps227 [] [] [.any (.slice a (ae.nd 1000000000 r) ca), .any (.slice b (ae.nd 1000000000 y) cb)] w ?_
  repeat' (first | exact ⟨⟩ | refine yG ?_ ?_ | refine yB (.int .i64 cv) (fun _ => HC) ?_ | intro _)
  all_goals rfl
 ·have hnd : ae.nd 1000000000 y <= ae.nd 1000000000 r := ae.dD (by omega) (by omega)
  have hyp := (ae.fM (b := 1000000000) (by omega)).2 hy0
  obtain ⟨l1, l2⟩ := ae.lead (b := 1000000000) (by omega) hy0
  have l3 := ae.U9 (b := 1000000000) (by omega) hy0 hr
  have g1 := (ae.OB (b := 1000000000) (r := r) (y := y) (k := ae.nd 1000000000 y - 1)).resolve_right (by omega)
  have g2 := ae.OC (b := 1000000000) (r := r) (y := y) (k := ae.nd 1000000000 y - 1) (Nat.pow_pos (by omega)) l2
  have g3 : r / y < 1000000000 := Nat.div_lt_of_lt_mul hr
  have hrl := ae.dP (b := 1000000000) (by omega) r
  have hgr := fun i (h : i < ae.nd 1000000000 r) => eQ (k := .u32) h
  have D8 := fun i (h : i < ae.nd 1000000000 y) => eQ (k := .u32) h
  obtain ⟨ad, rfl⟩ := aS.some hs (iJ (by omega))
  obtain ⟨bd, rfl⟩ := aS.some ht (iJ (by omega))
  have hqm : ∀ m, y * m <= r ↔ m <= r / y := fun m => by rw [Nat.le_div_iff_mul_le hy0, Nat.mul_comm]
  have hmono : ∀ j, ae.nd 1000000000 y - 1 <= j -> r / 1000000000 ^ j <= r / 1000000000 ^ (ae.nd 1000000000 y - 1) := fun j hj => Nat.div_le_div_left (Nat.pow_le_pow_right (by omega) hj) (Nat.pow_pos (by omega))
  refine yE func227 rfl results227 ntmps227 [] [] [.any (.slice (some ad) (ae.nd 1000000000 r) ca), .any (.slice (some bd) (ae.nd 1000000000 y) cb)] w ?_
  have YC := fun (g m : Nat) (hm : m < 1000000000) (w' : World) hb (h : aS (some ⟨g, 0, none⟩) (nv .u32 1000000000 m) w') => times_any (some bd) (some ⟨g, 0, none⟩) cb 1 y m w' (by omega) (by have := ae.A7 (b := 1000000000) (by omega) hm; omega) (aS.below ht hb) h
  have hCM := fun (a' : Option Addr) (c' m : Nat) (hm : m < 1000000000) (w' : World) hb (h : aS a' (nv .u32 1000000000 (y * m)) w') => jG a' (some ad) c' ca (y * m) r w' (by have := ae.iV (b := 1000000000) (x := y) (y := m) (by omega); have := ae.A7 (b := 1000000000) (by omega) hm; omega) (by omega) h (aS.below hs hb)
  generalize hN : ae.nd 1000000000 r = n at *
  generalize hM : ae.nd 1000000000 y = m at *
  obtain ⟨k, rfl⟩ : ∃ k, m = k + 1 := ⟨m - 1, by omega⟩
  rw [Nat.add_sub_cancel] at *
  repeat' (first | exact ⟨⟩ | refine yG ?_ ?_ | refine yB (.int .i64 cv) (fun _ => HC) ?_ | refine yO (aJ underlying137) ?_ | intro _)
  refine yZ (T := {j : Nat // k <= j /\ j <= n}) (fun t => ⟨[(0, .any (.slice (some ad) n ca)), (1, .any (.slice (some bd) (k + 1) cb)), (5, .int .i64 (k : Nat)), (6, .int .u64 ((r / 1000000000 ^ t.1 : Nat) : Int)), (7, .int .i64 ((t.1 : Nat) - 1 : Int))], [], 0, 72⟩) (fun t => t.1) ⟨n, by omega, Nat.le_refl _⟩ [] [] (fun t I hI => ?_) (by rw [Nat.div_eq_of_lt hrl]; ((with_reducible show wk _ _); repeat' (first | exact trivial | exact au _ | refine eY ?_ | refine eqS ?_ | apply And.intro | exact yV | fail)))
  obtain ⟨j, hj1, hj2⟩ := t
  dsimp only
  by_cases hjk : k < j
  ·obtain ⟨i, rfl⟩ : ∃ i, j = i + 1 := ⟨j - 1, by omega⟩
   have r1 := dW hs (hgr i (by omega))
   have e := ae.div_pow 1000000000 r i
   have hb := hmono i (by omega)
   have hb2 := hmono (i + 1) (by omega)
   generalize ae.bu 1000000000 i r = dr at *
   generalize r / 1000000000 ^ (i + 1) = H1 at *
   generalize hH0 : r / 1000000000 ^ i = H0 at *
   repeat' (first | exact ⟨⟩ | refine yG ?_ ?_ | refine yO (aJ underlying137) ?_ | refine yN (j := i) underlying137 sizeOf161 ?_ | refine yO (v := .int .u32 (dr : Nat)) (dh (fun w => isAgg161 w) (fun w' hb β => by rw [Nat.mul_one]; exact r1 w' hb)) ?_ | intro _)
   refine hI _ ⟨i, by omega, by omega⟩ (by dsimp only; omega) (by rw [hH0]; ((with_reducible show wk _ _); repeat' (first | exact trivial | exact au _ | refine eY ?_ | refine eqS ?_ | apply And.intro | exact yV | fail)))
  ·obtain rfl : j = k := by omega
   have r2 := dW ht (D8 j (by omega))
   rw [l1] at r2
   generalize y / 1000000000 ^ j = bk at *
   generalize r / 1000000000 ^ j = H at *
   generalize hq : r / y = q at *
   have hbkb : bk < 1000000000 := by rw [<- l1]; exact ae.dG (by omega) _ _
   have e1 : (H : Int) / ((bk : Int) + 1) = ((H / (bk + 1) : Nat) : Int) := by simp
   have e2 : (H : Int) / (bk : Int) = ((H / bk : Nat) : Int) := by simp
   have hq1 : H / (bk + 1) <= H := Nat.div_le_self _ _
   have hq2 : H / bk <= H := Nat.div_le_self _ _
   generalize H / (bk + 1) = lo at *
   generalize H / bk = tp at *
   repeat' (first | exact ⟨⟩ | refine yG ?_ ?_ | refine yO (aJ underlying137) ?_ | refine yN (j := j) underlying137 sizeOf161 ?_ | refine yO (v := .int .u32 (bk : Nat)) (dh (fun w => isAgg161 w) (fun w' hb β => by rw [Nat.mul_one]; exact r2 w' hb)) ?_ | refine yO (qh (by omega) (by omega) (by simp only [uu]; omega)) ?_ | intro _)
   refine yZ (T := {t : Nat × Nat // t.1 <= q /\ q <= t.2 /\ t.2 <= 999999999}) (fun t => ⟨[(0, .any (.slice (some ad) n ca)), (1, .any (.slice (some bd) (j + 1) cb)), (8, .int .u64 (t.1.1 : Nat)), (9, .int .u64 (t.1.2 : Nat))], [], 0, 72⟩) (fun t => t.1.2 - t.1.1) ⟨(lo, min tp 999999999), g1, by dsimp only; omega, by dsimp only; omega⟩ [] [] (fun t I hI => ?_) (by rw [e1, e2]; ((with_reducible show wk _ _); repeat' (first | exact trivial | exact au _ | refine eY ?_ | refine eqS ?_ | apply And.intro | exact yV | fail)))
   obtain ⟨⟨l, t⟩, h1, h2, h3⟩ := t
   dsimp only at h1 h2 h3 ⊢
   by_cases hlt2 : l < t
   ·obtain ⟨mm, hmm⟩ : ∃ mm, mm = (l + t + 1) / 2 := ⟨_, rfl⟩
    have e3 : ((l : Int) + t + 1) / 2 = (mm : Int) := by omega
    have hm1 : mm < 1000000000 := by omega
    have hTR := fun g (w' : World) hs' => lu (some ⟨g, 0, none⟩) 1 1 mm w' (by simpa using hm1) (Nat.le_refl _) (by omega) hs'
    rw [one_row hm1] at hTR
    have hsg2 := (ae.Ae 1000000000 (x := y * mm) (y := r) (by omega)).2.2
    have hqm := hqm mm
    have hCM := fun a' c' => hCM a' c' mm hm1
    have hpre : ∀ (i : Nat) (v : Value), (nv .u32 1000000000 mm)[i]? = some v -> ([.int .u32 (mm : Nat)] : List Value)[i]? = some v := by rw [<- one_row hm1]; exact ja (ae.A7 (by omega) hm1) .u32
    generalize ae.oM 1000000000 (y * mm) r = cv2 at *
    repeat' (first | exact ⟨⟩ | refine yG ?_ ?_ | refine yK (.any (.slice (some ⟨g, 0, none⟩) (ae.nd 1000000000 mm) 1)) (fun β w hm => hTR g w (Mem.own hm 0 rfl).1) ?_ | (refine aH .u32 1000000000 (y * mm) hw0 (by kernel_rfl) rfl (fun β w' hm => YC g mm hm1 w' hm.below (kK (Mem.own hm 0 rfl).1 hpre)) (fun ta tca hn1 hc1 hs1 => ?_)) | refine yK (.int .i64 cv2) (fun β w hm => hCM ta tca w hm.below (Mem.dS hm 1 rfl)) ?_ | (refine aI (sz := 1) rfl rfl rfl (xs := [.int .u32 (mm : Nat)]) (fun β => by simp only [SV.aF, SV.den]; rw [e3]) rfl (by omega) (by omega) hu hsz hzv (fun g => ?_)) | refine yO (qh (by omega) (by omega) (by simp only [uu]; omega)) ?_ | intro _)
    ·refine hI _ ⟨(mm, t), by dsimp only; omega, by dsimp only; omega, by dsimp only; omega⟩ (by dsimp only; omega) (by rw [e3]; ((with_reducible show wk _ _); repeat' (first | exact trivial | exact au _ | refine eY ?_ | refine eqS ?_ | apply And.intro | exact yV | fail)))
    ·refine hI _ ⟨(l, mm - 1), by dsimp only; omega, by dsimp only; omega, by dsimp only; omega⟩ (by dsimp only; omega) (by rw [e3]; ((with_reducible show wk _ _); repeat' (first | exact trivial | exact au _ | refine eY ?_ | refine eqS ?_ | apply And.intro | exact yV | fail)))
   ·repeat' (first | exact ⟨⟩ | refine yG ?_ ?_ | intro _)
    show Value.int .u32 (l : Nat) = _
    congr 1; omega
end
end Go.Proofs.YtdkhkfdenlabaaaGreatDoor
