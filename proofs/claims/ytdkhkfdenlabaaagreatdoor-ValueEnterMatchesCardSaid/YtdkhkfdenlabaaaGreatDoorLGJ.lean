/- Values, the program: characters, texts, texts of errors. The program's numbers: one, compare, plus. The program's numbers: sums and differences. The program's numbers: differences. The program's numbers: products. The program's numbers: a digit of a quotient. -/
import Derived.Test.YtdkhkfdenlabaaaGreatDoorLGG
import Derived.Test.YtdkhkfdenlabaaaGreatDoorLGI
import Derived.Test.YtdkhkfdenlabaaaGreatDoorLGD
import Derived.Test.YtdkhkfdenlabaaaGreatDoorLGE
import Derived.Test.YtdkhkfdenlabaaaGreatDoorLGF
set_option linter.unusedSimpArgs false
set_option linter.unusedVariables false
set_option maxRecDepth 100000
set_option maxHeartbeats 64000000
namespace Go.Proofs.YtdkhkfdenlabaaaGreatDoor
open Go.RowKit
open Sym
attribute [local irreducible] Calls Sym.AggEq ExP.nd ExP.dig ExP.upd ExP.writeF ExP.writeE
theorem char_any (c : Nat) (w : World) : QC 106 #[.int .i64 (c : Int)] w (.bool (VaP.charP c)) := by
 refine yE Tryz.func106 rfl Tryz.results106 Tryz.ntmps106 [] [] [.int .i64 (c : Int)] w ?_
 repeat' (first | refine yX ?_ | (apply And.intro <;> intro _) | apply bothI | refine retB fun β => ?_ | intro βe | exact trivial)
 all_goals (simp only [SV.den, VaP.charP]; congr 1; rw [Bool.eq_iff_iff]; simp; omega)
theorem rchar_any (c : Nat) (w : World) : QC 121 #[.int .i64 (c : Int)] w (.bool (VaP.charP c)) := by
 refine yE Tryz.func121 rfl Tryz.results121 Tryz.ntmps121 [] [] [.int .i64 (c : Int)] w ?_
 repeat' (first | refine yX ?_ | (apply And.intro <;> intro _) | apply bothI | refine retB fun β => ?_ | intro βe | exact trivial)
 all_goals (simp only [SV.den, VaP.charP]; congr 1; rw [Bool.eq_iff_iff]; simp; omega)
theorem decode_any (s : List UInt8) (w : World) (hw : XV w) : QC 105 #[.string (bstr s)] w (.tuple #[.int .i32 ((VaP.dec s).1 : Nat), .int .i64 ((VaP.dec s).2 : Nat)]) := Tryz.utf8_DecodeRuneInString (bstr s) w hw.utf
theorem vtext_any (s : List UInt8) (w : World) (hw : XV w) (hs : s.length ≤ 9223372036854775807) : QC 53 #[.string (bstr s)] w (.int .i64 (VaP.txtE s)) := by
 have hE : VaP.txtE s = if 32767 < s.length then 3 else if VaP.txtP s then 0 else 23 := rfl
 have D := fun (t : List UInt8) (w' : World) (h : BW w w') => decode_any t w' (hw.below h)
 refine yE Tryz.func53 rfl Tryz.results53 Tryz.ntmps53 [] [] [.str s] w ?_
 repeat' (first | refine yX ?_ | (apply And.intro <;> intro _) | apply bothI | refine retB fun β => ?_ | intro βe | exact trivial)
 all_goals first | (rw [hE, if_pos (by omega)]; rfl) | skip
 rw [if_neg (by omega)] at hE
 refine yZ (T := {t : List UInt8 // t.length ≤ s.length ∧ VaP.txtP t = VaP.txtP s}) (fun t => ⟨[(0, .str t.1)], [], 0, 30⟩) (fun t => t.1.length) ⟨s, Nat.le_refl _, rfl⟩ [] [] (fun t I hI => ?_)
 obtain ⟨t, ht, hp⟩ := t
 dsimp only
 by_cases h0 : t = []
 ·subst h0
  rw [← hp] at hE
  repeat' (first | refine yX ?_ | (apply And.intro <;> intro _) | apply bothI | refine retB fun β => ?_ | intro βe | exact trivial)
  all_goals first | (exfalso; simp_all; done) | (rw [hE]; rfl)
 ·have hst := VaP.txtP_step h0
  have hl := VaP.dec_len h0
  have hc := VaP.dec_lt h0
  obtain ⟨c, n, hcn⟩ : ∃ c n, VaP.dec t = (c, n) := ⟨_, _, rfl⟩
  have D1 := D t
  rw [hcn] at hst hl hc D1
  dsimp only at hst hl hc D1
  have bad : (c = 65533 ∧ n = 1) ∨ VaP.charP c = false → VaP.txtE s = 23 := fun h => by
   rw [hE, ← hp, hst, if_pos (h.imp (fun h => by rw [h.1, h.2]) id)]; rfl
  have good : ¬ (c = 65533 ∧ n = 1) → VaP.charP c = true → VaP.txtP (t.drop n) = VaP.txtP s := fun h1 h2 => by
   rw [← hp, hst, if_neg (fun h => h.elim (fun h => h1 ⟨congrArg Prod.fst h, congrArg Prod.snd h⟩) (fun h => by rw [h2] at h; cases h))]
  repeat' (first | refine yX ?_ | (apply And.intro <;> intro _) | apply bothI | refine retB fun β => ?_ | intro βe | refine yK (.tup [.int .i32 (c : Int), .int .i64 (n : Int)]) (fun β w hm => D1 w hm.below) ?_ | refine yK (.bool (VaP.charP c)) (fun β w hm => char_any c w) ?_ | ((with_reducible show ∃ _, _); first | (refine ⟨n, rfl, hl.2, ?_⟩)) | exact trivial)
  all_goals first | (exfalso; clear D D1; simp_all; done) | (rw [bad (.inl ⟨by omega, by omega⟩)]; rfl) | (rw [bad (.inr (by clear D D1; simp_all))]; rfl) | (refine hI _ ⟨t.drop n, by rw [List.length_drop]; omega, good (by omega) (by clear D D1; simp_all)⟩ (by dsimp only; rw [List.length_drop]; omega) yW; done) | trace_state
theorem ftext_ne0 : ∀ i, i < 9 → i ≠ 0 → VaP.ftext i ≠ [] := by decide
theorem ftext_ne (i : Nat) (h : 1 ≤ i) (h1 : i < 9) : VaP.ftext i ≠ [] := ftext_ne0 i h1 (by omega)
def VaP.ftextI (c : Int) : List UInt8 := if c < 1 ∨ 8 < c then [] else VaP.ftext c.toNat
theorem ftextI_nil (c : Int) : VaP.ftextI c = [] ↔ (c < 1 ∨ 8 < c) := by
 unfold VaP.ftextI
 split
 ·rename_i h; simp [h]
 ·rename_i h
  have := ftext_ne c.toNat (by omega) (by omega)
  simp only [h, iff_false]; exact this
theorem ftext_any (c : Int) (w : World) (hw : XV w) : QC 27 #[.int .i64 c] w (.string (bstr (VaP.ftextI c))) := by
 by_cases h : c < 1 ∨ 8 < c
 ·have e : VaP.ftextI c = [] := (ftextI_nil c).2 h
  rw [e]
  refine yE Tryz.func27 rfl Tryz.results27 Tryz.ntmps27 [] [] [.int .i64 c] w ?_
  repeat' (first | refine yX ?_ | (apply And.intro <;> intro _) | apply bothI | refine retB fun β => ?_ | intro βe | exact trivial)
  all_goals first | rfl | (exfalso; omega)
 ·obtain ⟨k, rfl⟩ : ∃ k : Nat, c = (k : Int) := ⟨c.toNat, by omega⟩
  have e : VaP.ftextI (k : Int) = VaP.ftext k := by unfold VaP.ftextI; rw [if_neg h]; rfl
  have hc := fun (w' : World) (hb : BW w w') => (hw.below hb).flt k (by omega)
  rw [e]
  generalize VaP.ftext k = T at *
  refine yE Tryz.func27 rfl Tryz.results27 Tryz.ntmps27 [] [] [.int .i64 (k : Int)] w ?_
  repeat' (first | refine yX ?_ | (apply And.intro <;> intro _) | apply bothI | refine retB fun β => ?_ | intro βe | refine yO (x_indexAny (j := k) rfl Tryz.underlying81 (fun w => Tryz.sizeOf9 w) (by omega)) ?_ | refine yO (v := .str T) (x_load1 (fun w => Tryz.isAgg9 w) (fun w' hb β => by rw [Nat.mul_one]; exact (congrArg _ (by simp [Addr.add]; omega)).trans (hc w' hb))) ?_ | exact trivial)
  all_goals first | rfl | (exfalso; omega)
end Go.Proofs.YtdkhkfdenlabaaaGreatDoor
namespace Go.Proofs.YtdkhkfdenlabaaaGreatDoor
open Go.RowKit
open Sym
attribute [local irreducible] Calls Sym.AggEq ExP.nd ExP.dig
theorem u32Info : (Tryz.prog.info? 161).map (fun i => (i.zero, i.size, i.bytes)) = some (some (.int .u32 0), 1, 4) := by kernel_rfl
theorem one_any (a : Option Addr) (cap x : Nat) (w : World) (hl : ExP.nd 1000000000 x ≤ 100000000) (hs : SlAt a (nv .u32 1000000000 x) w) : QC 187 #[.slice a (ExP.nd 1000000000 x) cap] w (.bool (decide (x = 1))) := by
 have h1 := ExP.one_iff (b := 1000000000) (x := x) (by omega)
 refine yE Tryz.func187 rfl Tryz.results187 Tryz.ntmps187 [] [] [.any (.slice a (ExP.nd 1000000000 x) cap)] w ?_
 by_cases h : ExP.nd 1000000000 x = 1
 ·obtain ⟨ad, rfl⟩ := SlAt.some hs (nv_ne (by omega))
  have hc := sl_read hs (i := 0) (nv_get (by omega))
  generalize ExP.nd 1000000000 x = n at *
  generalize ExP.dig 1000000000 0 x = dd at *
  repeat' (first | refine yX ?_ | (apply And.intro <;> intro _) | apply bothI | refine retB fun β => ?_ | intro βe | refine yO (x_len Tryz.underlying137) ?_ | refine yN (j := 0) Tryz.underlying137 Tryz.sizeOf161 ?_ | refine yO (v := .int .u32 (dd : Nat)) (x_load1 (fun w => Tryz.isAgg161 w) (fun w' hb β => by rw [Nat.zero_mul]; exact hc w' hb)) ?_ | exact trivial)
  show Value.bool (decide _) = _
  congr 1
  exact decide_eq_decide.2 (by omega)
 ·generalize ExP.nd 1000000000 x = n at *
  repeat' (first | refine yX ?_ | (apply And.intro <;> intro _) | apply bothI | refine retB fun β => ?_ | intro βe | refine yO (x_len Tryz.underlying137) ?_ | exact trivial)
  show Value.bool false = _
  congr 1
  exact (decide_eq_false (by omega)).symm
theorem compare_any (a b : Option Addr) (ca cb x y : Nat) (w : World) (hx : ExP.nd 1000000000 x ≤ 100000000) (hy : ExP.nd 1000000000 y ≤ 100000000) (hs : SlAt a (nv .u32 1000000000 x) w) (ht : SlAt b (nv .u32 1000000000 y) w) :
  QC 207 #[.slice a (ExP.nd 1000000000 x) ca, .slice b (ExP.nd 1000000000 y) cb] w (.int .i64 (ExP.cmpN 1000000000 x y)) := by
 refine yE Tryz.func207 rfl Tryz.results207 Tryz.ntmps207 [] [] [.any (.slice a (ExP.nd 1000000000 x) ca), .any (.slice b (ExP.nd 1000000000 y) cb)] w ?_
 by_cases hn : ExP.nd 1000000000 x = ExP.nd 1000000000 y
 ·have hxp := ExP.nd_lt (b := 1000000000) (by omega) x
  have hyp := ExP.nd_lt (b := 1000000000) (by omega) y
  have h0 : x / 1000000000 ^ ExP.nd 1000000000 x = y / 1000000000 ^ ExP.nd 1000000000 x := by rw [Nat.div_eq_of_lt hxp, hn, Nat.div_eq_of_lt hyp]
  have htop := fun j => ExP.cmp_top (b := 1000000000) (x := x) (y := y) (j := j) (by omega) hn
  have hnext := fun j => ExP.cmp_next (b := 1000000000) (x := x) (y := y) (i := j) (by omega)
  have hcs := ExP.cmp_same (b := 1000000000) (x := x) (y := y)
  clear hxp hyp
  have hgx := fun i (h : i < ExP.nd 1000000000 x) => nv_get (k := .u32) h
  have hgy := fun i (h : i < ExP.nd 1000000000 y) => nv_get (k := .u32) h
  have hnx := nv_ne (k := .u32) (b := 1000000000) (x := x)
  have hny := nv_ne (k := .u32) (b := 1000000000) (x := y)
  rw [← hn] at hgy hny ⊢
  generalize ExP.nd 1000000000 x = n at *
  generalize ExP.cmpN 1000000000 x y = cv at *
  repeat' (first | refine yX ?_ | (apply And.intro <;> intro _) | apply bothI | refine retB fun β => ?_ | intro βe | refine yO (x_len Tryz.underlying137) ?_ | exact trivial)
  refine yZ (T := {j : Nat // j ≤ n ∧ x / 1000000000 ^ j = y / 1000000000 ^ j}) (fun t => ⟨[(0, .any (.slice a n ca)), (1, .any (.slice b n cb)), (5, .int .i64 ((t.1 : Nat) - 1 : Int))], [], 0, 41⟩) (fun t => t.1) ⟨n, Nat.le_refl _, h0⟩ [] [] (fun t I hI => ?_)
  obtain ⟨j, hj, hxy⟩ := t
  dsimp only
  by_cases hj0 : j = 0
  ·subst hj0
   rw [hcs hxy]
   repeat' (first | refine yX ?_ | (apply And.intro <;> intro _) | apply bothI | refine retB fun β => ?_ | intro βe | exact trivial)
   all_goals rfl
  ·obtain ⟨i, rfl⟩ : ∃ i, j = i + 1 := ⟨j - 1, by omega⟩
   obtain ⟨ad, rfl⟩ := SlAt.some hs (hnx (by omega))
   obtain ⟨bd, rfl⟩ := SlAt.some ht (hny (by omega))
   have h1 := sl_read hs (hgx i (by omega))
   have h2 := sl_read ht (hgy i (by omega))
   have htop := htop i hxy
   have hnext := hnext i hxy
   generalize ExP.dig 1000000000 i x = dx at *
   generalize ExP.dig 1000000000 i y = dy at *
   repeat' (first | refine yX ?_ | (apply And.intro <;> intro _) | apply bothI | refine retB fun β => ?_ | intro βe | refine yO (x_len Tryz.underlying137) ?_ | refine yN (j := i) Tryz.underlying137 Tryz.sizeOf161 ?_ | refine yO (v := .int .u32 (dx : Nat)) (x_load1 (fun w => Tryz.isAgg161 w) (fun w' hb β => by rw [Nat.mul_one]; exact h1 w' hb)) ?_ | refine yO (v := .int .u32 (dy : Nat)) (x_load1 (fun w => Tryz.isAgg161 w) (fun w' hb β => by rw [Nat.mul_one]; exact h2 w' hb)) ?_ | exact trivial)
   ·rw [htop (by omega), if_pos (by omega)]; rfl
   ·rw [htop (by omega), if_neg (by omega)]; rfl
   ·refine hI _ ⟨i, by omega, hnext (by omega)⟩ (by dsimp only; omega) yW
 ·have hcv : ExP.cmpN 1000000000 x y = (ExP.nd 1000000000 x : Int) - ExP.nd 1000000000 y := by unfold ExP.cmpN; rw [if_pos hn]
  rw [hcv]
  generalize ExP.nd 1000000000 x = n at *
  generalize ExP.nd 1000000000 y = m at *
  repeat' (first | refine yX ?_ | (apply And.intro <;> intro _) | apply bothI | refine retB fun β => ?_ | intro βe | refine yO (x_len Tryz.underlying137) ?_ | exact trivial)
  all_goals rfl
structure PlT where
 i : Nat
 c : Nat
 S : Nat
 g : Nat
 cap : Nat
theorem plus_any (a b : Option Addr) (ca cb x y : Nat) (w : World) (hx : ExP.nd 1000000000 x ≤ 100000000) (hy : ExP.nd 1000000000 y ≤ 100000000) (hs : SlAt a (nv .u32 1000000000 x) w) (ht : SlAt b (nv .u32 1000000000 y) w) :
  Calls Tryz.prog 206 #[.slice a (ExP.nd 1000000000 x) ca, .slice b (ExP.nd 1000000000 y) cb] w (NatOut .u32 1000000000 (x + y) w) := by
 obtain ⟨i0, hi, hz0, hz1, hz2⟩ := info_parts u32Info
 have hu := Tryz.underlying137
 have hsz := fun w => Tryz.sizeOf161 w
 have hzv := fun w => Tryz.zeroValue161 w
 have hgx := fun i (h : i < ExP.nd 1000000000 x) => nv_get (k := .u32) h
 have hgy := fun i (h : i < ExP.nd 1000000000 y) => nv_get (k := .u32) h
 have hnx := nv_ne (k := .u32) (b := 1000000000) (x := x)
 have hny := nv_ne (k := .u32) (b := 1000000000) (x := y)
 have hbx := fun i => ExP.dig_big (b := 1000000000) (i := i) (x := x) (by omega)
 have hby := fun i => ExP.dig_big (b := 1000000000) (i := i) (x := y) (by omega)
 have hnext := fun {i c S} => ExP.plus_next (b := 1000000000) (x := x) (y := y) (i := i) (c := c) (S := S) (by omega)
 have hend := fun {i S} => ExP.plus_end (b := 1000000000) (x := x) (y := y) (i := i) (S := S) (by omega)
 have hcar := fun {i c S} => ExP.plus_carry (b := 1000000000) (x := x) (y := y) (i := i) (c := c) (S := S) (by omega)
 have hov := fun {i c S} => ExP.plus_over (b := 1000000000) (x := x) (y := y) (i := i) (c := c) (S := S) (by omega)
 have hdx := fun i => ExP.dig_lt (b := 1000000000) (by omega) i x
 have hdy := fun i => ExP.dig_lt (b := 1000000000) (by omega) i y
 refine yE Tryz.func206 rfl Tryz.results206 Tryz.ntmps206 [] [] [.any (.slice a (ExP.nd 1000000000 x) ca), .any (.slice b (ExP.nd 1000000000 y) cb)] w ?_
 generalize ExP.nd 1000000000 x = n at *
 generalize ExP.nd 1000000000 y = m at *
 repeat' (first | refine yX ?_ | (apply And.intro <;> intro _) | apply bothI | refine retB fun β => ?_ | intro βe | (refine opx_make0 (m := max n m + 1) rfl (by omega) rfl rfl hu hi hz0 hz1 rfl (by rw [hz2]; omega) (by unfold maxLen; omega) (fun g => ?_)) | refine yO (x_len Tryz.underlying137) ?_ | exact trivial)
 refine loop env_ok rfl (T := {t : PlT // ExP.PlusI 1000000000 x y t.i t.c t.S ∧ t.i ≤ max n m + 1}) (fun t => ⟨[(0, .any (.slice a n ca)), (1, .any (.slice b m cb)), (5, .any (.slice (some ⟨t.1.g, 0, none⟩) t.1.i t.1.cap)), (6, .int .u32 (t.1.c : Nat)), (7, .int .i64 (t.1.i : Nat))], [(0, true, .blob (OwnS 161 1 t.1.g t.1.i t.1.cap (valsK .u32 (ExP.dgN 1000000000 t.1.i t.1.S))))], 1, 61⟩) (fun t => max n m + 2 - t.1.i) ⟨⟨0, 0, 0, g, max n m + 1⟩, ⟨by simp [Nat.mod_one], by simp, .inl rfl⟩, Nat.zero_le _⟩ 1000 [] [] (fun _ => by exact Nat.zero_le _) (by ((with_reducible show wk _ _); repeat' (first | exact trivial | exact eqSV_refl _ | refine eqI ?_ | refine eqS ?_ | apply And.intro | exact yV | fail)); all_goals exact fun b x h => h) (fun t I hI => ?_)
 obtain ⟨⟨i, c, S, g, cap⟩, hP, hib⟩ := t
 dsimp only at hP hib ⊢
 have hc := hcar hP
 have hS := hP.lt
 have hN := hnext hP
 have hE := fun (h : c = 0) => by subst h; exact hend hP
 have hdx := hdx i
 have hdy := hdy i
 have hrow := fun (v : Int) (d : Nat) (hd : d < 1000000000) (hv : v = (d : Int)) => ExP.row_snoc (k := .u32) (b := 1000000000) (i := i) (S := S) (by omega) hS hd hv
 have hgx := hgx i
 have hgy := hgy i
 have hbx := hbx i
 have hby := hby i
 have htop : i ≤ max n m ∨ c = 0 := by
  rcases Nat.lt_or_ge (max n m) i with h | h
  ·exact .inr (hov hP (by omega) (by omega))
  ·exact .inl h
 clear hnext hend hcar hov
 generalize ExP.dig 1000000000 i x = dx at *
 generalize ExP.dig 1000000000 i y = dy at *
 by_cases h1 : i < n
 ·obtain ⟨ad, rfl⟩ := SlAt.some hs (hnx (by omega))
  have r1 := sl_read hs (hgx h1)
  by_cases h2 : i < m
  ·obtain ⟨bd, rfl⟩ := SlAt.some ht (hny (by omega))
   have r2 := sl_read ht (hgy h2)
   repeat' (first | refine yX ?_ | (apply And.intro <;> intro _) | apply bothI | refine retB fun β => ?_ | intro βe | (refine opx_build1 (sz := 1) rfl rfl rfl (xs := [.int .u32 (((c + dx + dy) % 1000000000 : Nat) : Int)]) (fun β => by simp [SV.dens, SV.den]) rfl (by omega) (by omega) hu hsz hzv (fun g1 => ?_)) | (refine opx_append (sz := 1) 0 1 rfl hu hi hz0 hz1 rfl (by omega) rfl rfl rfl rfl (by unfold maxLen; omega) (by rw [hz2]; omega) (by simp [Value.oneCell']) (by kernel_rfl) (Nat.zero_le _) (fun g2 cap2 => ?_)) | refine yO (x_len Tryz.underlying137) ?_ | refine yN (j := i) Tryz.underlying137 Tryz.sizeOf161 ?_ | refine yO (v := .int .u32 (dx : Nat)) (x_load1 (fun w => Tryz.isAgg161 w) (fun w' hb β => by rw [Nat.mul_one]; exact r1 w' hb)) ?_ | refine yO (v := .int .u32 (dy : Nat)) (x_load1 (fun w => Tryz.isAgg161 w) (fun w' hb β => by rw [Nat.mul_one]; exact r2 w' hb)) ?_ | refine yO (x_rem (by omega) (by omega)) ?_ | refine yO (x_quo (by omega) (by omega) (by simp only [inK]; omega)) ?_ | exact trivial)
   refine hI _ ⟨⟨i + 1, (c + dx + dy) / 1000000000, S + (c + dx + dy) % 1000000000 * 1000000000 ^ i, g2, cap2⟩, hN (.inl h1), by dsimp only; omega⟩ (by dsimp only; omega) (by ((with_reducible show wk _ _); repeat' (first | exact trivial | exact eqSV_refl _ | refine eqI ?_ | refine eqS ?_ | apply And.intro | exact yV | fail)); all_goals (rw [hrow _ ((c + dx + dy) % 1000000000) (by omega) (by rfl)]; exact fun b x h => h))
  ·have hy0 := hby (by omega)
   repeat' (first | refine yX ?_ | (apply And.intro <;> intro _) | apply bothI | refine retB fun β => ?_ | intro βe | (refine opx_build1 (sz := 1) rfl rfl rfl (xs := [.int .u32 (((c + dx) % 1000000000 : Nat) : Int)]) (fun β => by simp [SV.dens, SV.den]) rfl (by omega) (by omega) hu hsz hzv (fun g1 => ?_)) | (refine opx_append (sz := 1) 0 1 rfl hu hi hz0 hz1 rfl (by omega) rfl rfl rfl rfl (by unfold maxLen; omega) (by rw [hz2]; omega) (by simp [Value.oneCell']) (by kernel_rfl) (Nat.zero_le _) (fun g2 cap2 => ?_)) | refine yO (x_len Tryz.underlying137) ?_ | refine yN (j := i) Tryz.underlying137 Tryz.sizeOf161 ?_ | refine yO (v := .int .u32 (dx : Nat)) (x_load1 (fun w => Tryz.isAgg161 w) (fun w' hb β => by rw [Nat.mul_one]; exact r1 w' hb)) ?_ | refine yO (x_rem (by omega) (by omega)) ?_ | refine yO (x_quo (by omega) (by omega) (by simp only [inK]; omega)) ?_ | exact trivial)
   refine hI _ ⟨⟨i + 1, (c + dx + dy) / 1000000000, S + (c + dx + dy) % 1000000000 * 1000000000 ^ i, g2, cap2⟩, hN (.inl h1), by dsimp only; omega⟩ (by dsimp only; omega) (by ((with_reducible show wk _ _); repeat' (first | exact trivial | exact eqSV_refl _ | refine eqI ?_ | refine eqS ?_ | apply And.intro | exact yV | fail)); all_goals (rw [hrow _ ((c + dx + dy) % 1000000000) (by omega) (by rw [hy0]; rfl)]; exact fun b x h => h))
 ·have hx0 := hbx (by omega)
  by_cases h2 : i < m
  ·obtain ⟨bd, rfl⟩ := SlAt.some ht (hny (by omega))
   have r2 := sl_read ht (hgy h2)
   repeat' (first | refine yX ?_ | (apply And.intro <;> intro _) | apply bothI | refine retB fun β => ?_ | intro βe | (refine opx_build1 (sz := 1) rfl rfl rfl (xs := [.int .u32 (((c + dy) % 1000000000 : Nat) : Int)]) (fun β => by simp [SV.dens, SV.den]) rfl (by omega) (by omega) hu hsz hzv (fun g1 => ?_)) | (refine opx_append (sz := 1) 0 1 rfl hu hi hz0 hz1 rfl (by omega) rfl rfl rfl rfl (by unfold maxLen; omega) (by rw [hz2]; omega) (by simp [Value.oneCell']) (by kernel_rfl) (Nat.zero_le _) (fun g2 cap2 => ?_)) | refine yO (x_len Tryz.underlying137) ?_ | refine yN (j := i) Tryz.underlying137 Tryz.sizeOf161 ?_ | refine yO (v := .int .u32 (dy : Nat)) (x_load1 (fun w => Tryz.isAgg161 w) (fun w' hb β => by rw [Nat.mul_one]; exact r2 w' hb)) ?_ | refine yO (x_rem (by omega) (by omega)) ?_ | refine yO (x_quo (by omega) (by omega) (by simp only [inK]; omega)) ?_ | exact trivial)
   refine hI _ ⟨⟨i + 1, (c + dx + dy) / 1000000000, S + (c + dx + dy) % 1000000000 * 1000000000 ^ i, g2, cap2⟩, hN (.inr (.inl h2)), by dsimp only; omega⟩ (by dsimp only; omega) (by ((with_reducible show wk _ _); repeat' (first | exact trivial | exact eqSV_refl _ | refine eqI ?_ | refine eqS ?_ | apply And.intro | exact yV | fail)); all_goals (rw [hrow _ ((c + dx + dy) % 1000000000) (by omega) (by rw [hx0]; omega)]; exact fun b x h => h))
  ·have hy0 := hby (by omega)
   by_cases h3 : 0 < c
   ·repeat' (first | refine yX ?_ | (apply And.intro <;> intro _) | apply bothI | refine retB fun β => ?_ | intro βe | (refine opx_build1 (sz := 1) rfl rfl rfl (xs := [.int .u32 (((c) % 1000000000 : Nat) : Int)]) (fun β => by simp [SV.dens, SV.den]) rfl (by omega) (by omega) hu hsz hzv (fun g1 => ?_)) | (refine opx_append (sz := 1) 0 1 rfl hu hi hz0 hz1 rfl (by omega) rfl rfl rfl rfl (by unfold maxLen; omega) (by rw [hz2]; omega) (by simp [Value.oneCell']) (by kernel_rfl) (Nat.zero_le _) (fun g2 cap2 => ?_)) | refine yO (x_len Tryz.underlying137) ?_ | refine yN (j := i) Tryz.underlying137 Tryz.sizeOf161 ?_ | refine yO (x_rem (by omega) (by omega)) ?_ | refine yO (x_quo (by omega) (by omega) (by simp only [inK]; omega)) ?_ | exact trivial)
    refine hI _ ⟨⟨i + 1, (c + dx + dy) / 1000000000, S + (c + dx + dy) % 1000000000 * 1000000000 ^ i, g2, cap2⟩, hN (.inr (.inr h3)), by dsimp only; omega⟩ (by dsimp only; omega) (by ((with_reducible show wk _ _); repeat' (first | exact trivial | exact eqSV_refl _ | refine eqI ?_ | refine eqS ?_ | apply And.intro | exact yV | fail)); all_goals (rw [hrow _ ((c + dx + dy) % 1000000000) (by omega) (by rw [hx0, hy0]; omega)]; exact fun b x h => h))
   ·obtain ⟨rfl, rfl⟩ := hE (by omega) (by omega) (by omega)
    repeat' (first | refine yX ?_ | (apply And.intro <;> intro _) | apply bothI | refine retB fun β => ?_ | intro βe | refine yO (x_len Tryz.underlying137) ?_ | exact trivial)
    refine ret fun β w' hm => ?_
    obtain ⟨q1, q2, q3⟩ := Mem.own hm 0 rfl
    exact ⟨_, cap, rfl, q1, fresh_own q2 rfl, (fun h => by cases h), q3, hm.below⟩
theorem clone_any (ad : Addr) (n cap : Nat) (xs : List Value) (w : World) (hl : xs.length = n) (hn : n ≤ 100000000) (h1 : ∀ u ∈ xs, u.oneCell' = true) (hs : SlAt (some ad) xs w) :
  Calls Tryz.prog 233 #[.slice (some ad) n cap] w (OwnOut 161 n xs w) := by
 obtain ⟨i0, hi, hz0, hz1, hz2⟩ := info_parts u32Info
 have hu := Tryz.underlying137
 have hsz := fun w => Tryz.sizeOf161 w
 refine yE Tryz.func233 rfl Tryz.results233 Tryz.ntmps233 [] [] [.any (.slice (some ad) n cap)] w ?_
 repeat' (first | refine yX ?_ | (apply And.intro <;> intro _) | apply bothI | refine retB fun β => ?_ | intro βe | (refine opx_build0 rfl hu hsz (fun g => ?_)) | (refine opx_appendW (sz := 1) 0 (ys := xs) rfl hu hi hz0 hz1 rfl (by omega) rfl rfl rfl (fun h => by cases h) (by rw [Nat.mul_one]; exact hl) (fun β w' hm => hs.below hm.below) (by unfold maxLen; omega) (by rw [hz2]; omega) h1 (by kernel_rfl) (Nat.zero_le _) (fun g2 cap2 => ?_)) | refine yO (x_eqNil hu) ?_ | exact trivial)
 ·rename_i h; cases h
 ·refine ret fun β w' hm => ?_
  obtain ⟨q1, q2, q3⟩ := retOwn hm 0 rfl
  simp only [Nat.zero_add, List.nil_append] at q3
  exact ⟨g2, cap2, by simp [SV.den], q1, q2, q3, hm.below⟩
theorem minus_any (a b : Option Addr) (ca cb x y : Nat) (w : World) (hx : ExP.nd 1000000000 x ≤ 100000000) (hy : ExP.nd 1000000000 y ≤ 100000000) (hyx : y ≤ x) (hca : a = none → ca = 0) (hs : SlAt a (nv .u32 1000000000 x) w) (ht : SlAt b (nv .u32 1000000000 y) w) :
  Calls Tryz.prog 208 #[.slice a (ExP.nd 1000000000 x) ca, .slice b (ExP.nd 1000000000 y) cb] w (NatOut .u32 1000000000 (x - y) w) := by
 obtain ⟨i0, hi, hz0, hz1, hz2⟩ := info_parts u32Info
 have hu := Tryz.underlying137
 have hsz := fun w => Tryz.sizeOf161 w
 have hzv := fun w => Tryz.zeroValue161 w
 cases a with
 | none =>
   have hx0 : x = 0 := by
    rcases Nat.eq_zero_or_pos x with h | h
    ·exact h
    ·obtain ⟨ad, e⟩ := SlAt.some hs (nv_ne ((ExP.nd_pos (by omega)).2 h)); cases e
   subst hx0
   obtain rfl : y = 0 := by omega
   obtain rfl := hca rfl
   refine yE Tryz.func208 rfl Tryz.results208 Tryz.ntmps208 [] [] [.any (.slice none (ExP.nd 1000000000 0) 0), .any (.slice b (ExP.nd 1000000000 0) cb)] w ?_
   rw [ExP.nd_zero]
   have hCN : ∀ w, QC 233 #[.slice none 0 0] w (.slice none 0 0) := fun w => by
    refine yE Tryz.func233 rfl Tryz.results233 Tryz.ntmps233 [] [] [.any (.slice none 0 0)] w ?_
    repeat' (first | refine yX ?_ | (apply And.intro <;> intro _) | apply bothI | refine retB fun β => ?_ | intro βe | refine yO (x_eqNil hu) ?_ | exact trivial)
    all_goals rfl
   have hTN : ∀ w, QC 201 #[.slice none 0 0] w (.slice none (ExP.nd 1000000000 0) 0) := fun w => trim_any none 0 0 0 w (by simp) (Nat.le_refl _) (by omega) (fun i v h => by simp [ExP.dgN, ExP.tab, valsK] at h)
   rw [ExP.nd_zero] at hTN
   repeat' (first | refine yX ?_ | (apply And.intro <;> intro _) | apply bothI | refine retB fun β => ?_ | intro βe | refine yK (.any (.slice none 0 0)) (fun β w hm => hCN w) ?_ | refine yO (x_len Tryz.underlying137) ?_ | exact trivial)
   refine yZ (T := Unit) (fun _ => ⟨[(5, .any (.slice none 0 0)), (12, .int .i64 0), (13, .int .i64 0)], [], 0, 49⟩) (fun _ => 0) () [] [] (fun t I hI => ?_)
   repeat' (first | refine yX ?_ | (apply And.intro <;> intro _) | apply bothI | refine retB fun β => ?_ | intro βe | refine yK (.any (.slice none 0 0)) (fun β w hm => hTN w) ?_ | exact trivial)
   refine ret fun β w' hm => ?_
   exact ⟨none, 0, by simp only [Nat.sub_zero, ExP.nd_zero]; rfl, fun i v h => by simp [nv, ExP.dg, ExP.dgN, ExP.tab, valsK, ExP.nd_zero] at h, fun h => absurd (by simp [nv, ExP.dg, ExP.dgN, ExP.tab, valsK, ExP.nd_zero]) h, fun _ => rfl, by rw [Nat.sub_zero, ExP.nd_zero]; exact Nat.le_refl _, hm.below⟩
 | some ad =>
   have hgy := fun i (h : i < ExP.nd 1000000000 y) => nv_get (k := .u32) h
   have hny := nv_ne (k := .u32) (b := 1000000000) (x := y)
   have hby := fun i => ExP.dig_big (b := 1000000000) (i := i) (x := y) (by omega)
   have hdx := fun i => ExP.dig_lt (b := 1000000000) (by omega) i x
   have hdy := fun i => ExP.dig_lt (b := 1000000000) (by omega) i y
   have hyl : ExP.nd 1000000000 y ≤ ExP.nd 1000000000 x := by
    rcases Nat.lt_or_ge (ExP.nd 1000000000 x) (ExP.nd 1000000000 y) with h | h
    ·have := ExP.nd_less (b := 1000000000) (by omega) h; omega
    ·exact h
   have hHC := fun w' hb => clone_any ad (ExP.nd 1000000000 x) ca (nv .u32 1000000000 x) w' (nv_len _ _ _) hx (valsK_one _ _) (SlAt.below hs hb)
   have hxlt := ExP.nd_lt (b := 1000000000) (by omega) x
   refine yE Tryz.func208 rfl Tryz.results208 Tryz.ntmps208 [] [] [.any (.slice (some ad) (ExP.nd 1000000000 x) ca), .any (.slice b (ExP.nd 1000000000 y) cb)] w ?_
   have hnvx : nv .u32 1000000000 x = valsK .u32 (ExP.mixD 1000000000 (ExP.nd 1000000000 x) 0 0 x) := by rw [ExP.mix_zero]; rfl
   rw [hnvx] at hHC
   have hTR := fun g (cap V : Nat) (w' : World) (hV : V < 1000000000 ^ ExP.nd 1000000000 x) hc hs' => trim_any (some ⟨g, 0, none⟩) (ExP.nd 1000000000 x) cap V w' hV hc hx hs'
   generalize ExP.nd 1000000000 x = n at *
   generalize ExP.nd 1000000000 y = m at *
   repeat' (first | refine yX ?_ | (apply And.intro <;> intro _) | apply bothI | refine retB fun β => ?_ | intro βe | (refine callOwn 161 n (valsK .u32 (ExP.mixD 1000000000 n 0 0 x)) (by kernel_rfl) rfl (fun β w' hm => hHC w' hm.below) (fun g cap => ?_)) | refine yO (x_len Tryz.underlying137) ?_ | exact trivial)
   refine loop env_ok rfl (T := {t : Nat × Nat × Nat // t.1 ≤ n ∧ ExP.MinusI 1000000000 x y t.1 t.2.1 t.2.2}) (fun t => ⟨[(1, .any (.slice b m cb)), (5, .any (.slice (some ⟨g, 0, none⟩) n cap)), (6, .int .u32 (t.1.2.1 : Nat)), (12, .int .i64 (n : Nat)), (13, .int .i64 (t.1.1 : Nat))], [(0, true, .blob (OwnS 161 1 g n cap (valsK .u32 (ExP.mixD 1000000000 n t.1.1 t.1.2.2 x))))], 1, 49⟩) (fun t => n - t.1.1) ⟨(0, 0, 0), Nat.zero_le _, ⟨by simp [Nat.mod_one], by simp, by simp⟩⟩ 1000 [] [] (fun _ => by exact Nat.zero_le _) (by ((with_reducible show wk _ _); repeat' (first | exact trivial | exact eqSV_refl _ | refine eqI ?_ | refine eqS ?_ | apply And.intro | exact yV | fail)); all_goals exact fun b x h => h) (fun t I hI => ?_)
   obtain ⟨⟨i, c, D⟩, hin, hM⟩ := t
   dsimp only at hin hM ⊢
   have hc := hM.bit
   have hDl := hM.lt
   by_cases hlt : i < n
   ·have hn1 := ExP.minus_next (b := 1000000000) (by omega) hM
    have hn0 := ExP.minus_next0 (b := 1000000000) (by omega) hM
    have hset := fun d hd => ExP.mix_set (b := 1000000000) (n := n) (i := i) (D := D) (x := x) (d := d) (by omega) hDl hd
    have hget := ExP.mix_get (b := 1000000000) (n := n) (i := i) (D := D) (x := x) hlt
    have hdx := hdx i
    have hdy := hdy i
    have hgy := hgy i
    have hby := hby i
    generalize ExP.dig 1000000000 i x = dx at *
    generalize ExP.dig 1000000000 i y = dy at *
    have hgv := valsK_get (k := .u32) hget
    have hlen : (valsK .u32 (ExP.mixD 1000000000 n i D x)).length = n := by rw [valsK_len, ExP.mix_len]
    generalize hXS : valsK .u32 (ExP.mixD 1000000000 n i D x) = XS at *
    have hfin : ∀ d : Nat, d < 1000000000 → XS.set i (.int .u32 (d : Int)) = valsK .u32 (ExP.mixD 1000000000 n (i + 1) (D + d * 1000000000 ^ i) x) := fun d hd => by rw [← hXS, valsK_set, hset d hd]
    by_cases hm : i < m
    ·obtain ⟨bd, rfl⟩ := SlAt.some ht (hny (by omega))
     have r2 := sl_read ht (hgy hm)
     repeat' (first | refine yX ?_ | (apply And.intro <;> intro _) | apply bothI | refine retB fun β => ?_ | intro βe | (refine opx_store env_ok 0 (v := .int .u32 ((dx : Nat) + 1000000000)) (u := .int .u32 ((dx : Nat) + 1000000000)) rfl rfl rfl rfl (fun β => rfl) rfl rfl (by omega) ?_) | (refine opx_store env_ok 0 (v := .int .u32 ((dx : Nat) + 1000000000 - ((c : Nat) + (dy : Nat)))) (u := .int .u32 ((dx + 1000000000 - (c + dy) : Nat) : Int)) rfl rfl rfl rfl (fun β => by simp [SV.den]; omega) rfl rfl (by omega) ?_) | (refine opx_store env_ok 0 (v := .int .u32 ((dx : Nat) - ((c : Nat) + (dy : Nat)))) (u := .int .u32 ((dx - (c + dy) : Nat) : Int)) rfl rfl rfl rfl (fun β => by simp [SV.den]; omega) rfl rfl (by omega) ?_) | refine yO (x_len Tryz.underlying137) ?_ | refine yN (j := i) Tryz.underlying137 Tryz.sizeOf161 ?_ | refine yO (v := .int .u32 (dy : Nat)) (x_load1 (fun w => Tryz.isAgg161 w) (fun w' hb β => by rw [Nat.mul_one]; exact r2 w' hb)) ?_ | refine yO (v := .int .u32 (dx : Nat)) (x_loadO 0 (.int .u32 (dx : Nat)) (fun w => Tryz.isAgg161 w) rfl (fun β => by rw [Nat.mul_one]; exact hgv)) ?_ | refine yO (v := .int .u32 ((dx : Nat) + 1000000000)) (x_loadO 0 (.int .u32 ((dx : Nat) + 1000000000)) (fun w => Tryz.isAgg161 w) rfl (fun β => by rw [Nat.mul_one, List.getElem?_set_self (by omega)]; rfl)) ?_ | exact trivial)
     all_goals first | (refine hI _ ⟨(i + 1, 1, D + (dx + 1000000000 - (c + dy)) * 1000000000 ^ i), by dsimp only; omega, hn1 (by omega)⟩ (by dsimp only; omega) (by ((with_reducible show wk _ _); repeat' (first | exact trivial | exact eqSV_refl _ | refine eqI ?_ | refine eqS ?_ | apply And.intro | exact yV | fail)); all_goals (simp only [Nat.mul_one, List.set_set]; rw [hfin _ (by omega)]; exact fun b x h => h)); done) | (refine hI _ ⟨(i + 1, 0, D + (dx - (c + dy)) * 1000000000 ^ i), by dsimp only; omega, hn0 (by omega)⟩ (by dsimp only; omega) (by ((with_reducible show wk _ _); repeat' (first | exact trivial | exact eqSV_refl _ | refine eqI ?_ | refine eqS ?_ | apply And.intro | exact yV | fail)); all_goals (simp only [Nat.mul_one, List.set_set]; rw [hfin _ (by omega)]; exact fun b x h => h)); done)
    ·have hy0 := hby (by omega)
     repeat' (first | refine yX ?_ | (apply And.intro <;> intro _) | apply bothI | refine retB fun β => ?_ | intro βe | (refine opx_store env_ok 0 (v := .int .u32 ((dx : Nat) + 1000000000)) (u := .int .u32 ((dx : Nat) + 1000000000)) rfl rfl rfl rfl (fun β => rfl) rfl rfl (by omega) ?_) | (refine opx_store env_ok 0 (v := .int .u32 ((dx : Nat) + 1000000000 - (c : Nat))) (u := .int .u32 ((dx + 1000000000 - (c + dy) : Nat) : Int)) rfl rfl rfl rfl (fun β => by simp [SV.den]; omega) rfl rfl (by omega) ?_) | (refine opx_store env_ok 0 (v := .int .u32 ((dx : Nat) - (c : Nat))) (u := .int .u32 ((dx - (c + dy) : Nat) : Int)) rfl rfl rfl rfl (fun β => by simp [SV.den]; omega) rfl rfl (by omega) ?_) | refine yO (x_len Tryz.underlying137) ?_ | refine yN (j := i) Tryz.underlying137 Tryz.sizeOf161 ?_ | refine yO (v := .int .u32 (dx : Nat)) (x_loadO 0 (.int .u32 (dx : Nat)) (fun w => Tryz.isAgg161 w) rfl (fun β => by rw [Nat.mul_one]; exact hgv)) ?_ | refine yO (v := .int .u32 ((dx : Nat) + 1000000000)) (x_loadO 0 (.int .u32 ((dx : Nat) + 1000000000)) (fun w => Tryz.isAgg161 w) rfl (fun β => by rw [Nat.mul_one, List.getElem?_set_self (by omega)]; rfl)) ?_ | exact trivial)
     all_goals first | (refine hI _ ⟨(i + 1, 1, D + (dx + 1000000000 - (c + dy)) * 1000000000 ^ i), by dsimp only; omega, hn1 (by omega)⟩ (by dsimp only; omega) (by ((with_reducible show wk _ _); repeat' (first | exact trivial | exact eqSV_refl _ | refine eqI ?_ | refine eqS ?_ | apply And.intro | exact yV | fail)); all_goals (simp only [Nat.mul_one, List.set_set]; rw [hfin _ (by omega)]; exact fun b x h => h)); done) | (refine hI _ ⟨(i + 1, 0, D + (dx - (c + dy)) * 1000000000 ^ i), by dsimp only; omega, hn0 (by omega)⟩ (by dsimp only; omega) (by ((with_reducible show wk _ _); repeat' (first | exact trivial | exact eqSV_refl _ | refine eqI ?_ | refine eqS ?_ | apply And.intro | exact yV | fail)); all_goals (simp only [Nat.mul_one, List.set_set]; rw [hfin _ (by omega)]; exact fun b x h => h)); done)
   ·obtain rfl : i = n := by omega
    obtain ⟨rfl, -⟩ := ExP.minus_end (b := 1000000000) (by omega) hM hxlt hyx
    rw [ExP.mix_all]
    repeat' (first | refine yX ?_ | (apply And.intro <;> intro _) | apply bothI | refine retB fun β => ?_ | intro βe | refine yK (.any (.slice (some ⟨g, 0, none⟩) (ExP.nd 1000000000 (x - y)) cap)) (fun β w hm => hTR g cap (x - y) w hDl (Mem.own hm 0 rfl).2.2 (Mem.own hm 0 rfl).1) ?_ | refine yO (x_len Tryz.underlying137) ?_ | exact trivial)
    refine ret fun β w' hm => ?_
    obtain ⟨q1, q2, q3⟩ := Mem.own hm 0 rfl
    have hle := ExP.nd_le (b := 1000000000) (by omega) hDl
    exact ⟨_, cap, rfl, sl_pre q1 (dgN_pre hle .u32), fresh_own q2 rfl, (fun h => by cases h), Nat.le_trans hle q3, hm.below⟩
end Go.Proofs.YtdkhkfdenlabaaaGreatDoor
namespace Go.Proofs.YtdkhkfdenlabaaaGreatDoor
open Go.RowKit
open Sym
attribute [local irreducible] Calls Sym.AggEq ExP.nd ExP.dig ExP.upd
theorem rep_row {k : IntKind} (b n : Nat) : List.replicate n (Value.int k 0) = valsK k (ExP.dgN b n 0) := by
 apply List.ext_getElem?
 intro i
 by_cases h : i < n
 ·rw [valsK_get (ExP.dgN_get b n 0 i h)]
  have : ExP.dig b i 0 = 0 := by unfold ExP.dig; simp
  simp [h, this]
 ·rw [List.getElem?_eq_none (by simpa using h), List.getElem?_eq_none (by rw [valsK_len, ExP.dgN_len]; omega)]
theorem times_any (a b : Option Addr) (ca cb x y : Nat) (w : World) (hx : ExP.nd 1000000000 x ≤ 40000000) (hy : ExP.nd 1000000000 y ≤ 40000000) (hs : SlAt a (nv .u32 1000000000 x) w) (ht : SlAt b (nv .u32 1000000000 y) w) :
  Calls Tryz.prog 168 #[.slice a (ExP.nd 1000000000 x) ca, .slice b (ExP.nd 1000000000 y) cb] w (NatOut .u32 1000000000 (x * y) w) := by
 obtain ⟨i0, hi, hz0, hz1, hz2⟩ := info_parts u32Info
 have hu := Tryz.underlying137
 have hgx := fun i (h : i < ExP.nd 1000000000 x) => nv_get (k := .u32) h
 have hgy := fun i (h : i < ExP.nd 1000000000 y) => nv_get (k := .u32) h
 have hnx := nv_ne (k := .u32) (b := 1000000000) (x := x)
 have hny := nv_ne (k := .u32) (b := 1000000000) (x := y)
 have hdx := fun i => ExP.dig_lt (b := 1000000000) (by omega) i x
 have hdy := fun i => ExP.dig_lt (b := 1000000000) (by omega) i y
 have hxl := ExP.nd_lt (b := 1000000000) (by omega) x
 have hyl := ExP.nd_lt (b := 1000000000) (by omega) y
 have hTR := fun g (V : Nat) (w' : World) (hV : V < 1000000000 ^ (ExP.nd 1000000000 x + ExP.nd 1000000000 y)) hs' => trim_any (some ⟨g, 0, none⟩) (ExP.nd 1000000000 x + ExP.nd 1000000000 y) (ExP.nd 1000000000 x + ExP.nd 1000000000 y) V w' hV (Nat.le_refl _) (by omega) hs'
 refine yE Tryz.func168 rfl Tryz.results168 Tryz.ntmps168 [] [] [.any (.slice a (ExP.nd 1000000000 x) ca), .any (.slice b (ExP.nd 1000000000 y) cb)] w ?_
 generalize ExP.nd 1000000000 x = n at *
 generalize ExP.nd 1000000000 y = m at *
 repeat' (first | refine yX ?_ | (apply And.intro <;> intro _) | apply bothI | refine retB fun β => ?_ | intro βe | (refine opx_make (m := n + m) rfl (by omega) rfl rfl hu hi hz0 hz1 rfl (by rw [hz2]; omega) (by unfold maxLen; omega) (fun g => ?_)) | refine yO (x_len Tryz.underlying137) ?_ | exact trivial)
 rw [rep_row 1000000000]
 refine loop env_ok rfl (T := {t : Nat × Nat // t.1 ≤ n ∧ ExP.TimesI 1000000000 x y m t.1 0 0 t.2}) (fun t => ⟨[(0, .any (.slice a n ca)), (1, .any (.slice b m cb)), (5, .any (.slice (some ⟨g, 0, none⟩) (n + m) (n + m))), (18, .any (.slice a n ca)), (19, .int .i64 (n : Nat)), (20, .int .i64 (t.1.1 : Nat))], [(0, true, .blob (OwnS 161 1 g (n + m) (n + m) (valsK .u32 (ExP.dgN 1000000000 (n + m) t.1.2))))], 1, 69⟩) (fun t => n - t.1.1) ⟨(0, 0), Nat.zero_le _, ExP.times_start (by omega)⟩ 1000 [] [] (fun _ => by exact Nat.zero_le _) (by ((with_reducible show wk _ _); repeat' (first | exact trivial | exact eqSV_refl _ | refine eqI ?_ | refine eqS ?_ | apply And.intro | exact yV | fail)); all_goals exact fun b x h => h) (fun t I hI => ?_)
 obtain ⟨⟨i, V⟩, hin, hT⟩ := t
 dsimp only at hin hT ⊢
 by_cases hlt : i < n
 ·obtain ⟨ad, rfl⟩ := SlAt.some hs (hnx (by omega))
  have r1 := sl_read hs (hgx i hlt)
  have hdxi := hdx i
  have hstep := fun {k c V nn} (h : ExP.TimesI 1000000000 x y m i k c V) (hk : k < m) (hn : nn = ExP.dig 1000000000 i x * ExP.dig 1000000000 k y + ExP.dig 1000000000 (i + k) V + c) => ExP.times_next (by omega) h hk hn
  generalize hdd : ExP.dig 1000000000 i x = dx at *
  repeat' (first | refine yX ?_ | (apply And.intro <;> intro _) | apply bothI | refine retB fun β => ?_ | intro βe | refine yO (x_len Tryz.underlying137) ?_ | refine yN (j := i) Tryz.underlying137 Tryz.sizeOf161 ?_ | refine yO (v := .int .u32 (dx : Nat)) (x_load1 (fun w => Tryz.isAgg161 w) (fun w' hb β => by rw [Nat.mul_one]; exact r1 w' hb)) ?_ | exact trivial)
  refine loop env_ok rfl (T := {t : Nat × Nat × Nat // t.1 ≤ m ∧ ExP.TimesI 1000000000 x y m i t.1 t.2.1 t.2.2}) (fun t => ⟨[(0, .any (.slice (some ad) n ca)), (1, .any (.slice b m cb)), (5, .any (.slice (some ⟨g, 0, none⟩) (n + m) (n + m))), (6, .int .i64 (i : Nat)), (7, .int .u32 (dx : Nat)), (8, .int .u64 (t.1.2.1 : Nat)), (18, .any (.slice (some ad) n ca)), (19, .int .i64 (n : Nat)), (20, .int .i64 (i : Nat)), (25, .any (.slice b m cb)), (26, .int .i64 (m : Nat)), (27, .int .i64 (t.1.1 : Nat))], [(0, true, .blob (OwnS 161 1 g (n + m) (n + m) (valsK .u32 (ExP.dgN 1000000000 (n + m) t.1.2.2))))], 1, 69⟩) (fun t => m - t.1.1) ⟨(0, 0, V), Nat.zero_le _, hT⟩ 1000 [] [] (fun _ => by exact Nat.zero_le _) (by ((with_reducible show wk _ _); repeat' (first | exact trivial | exact eqSV_refl _ | refine eqI ?_ | refine eqS ?_ | apply And.intro | exact yV | fail)); all_goals exact fun b x h => h) (fun t I2 hI2 => ?_)
  obtain ⟨⟨k, c, U⟩, hkm, hT2⟩ := t
  dsimp only at hkm hT2 ⊢
  have hcb := hT2.bit
  by_cases hlk : k < m
  ·obtain ⟨bd, rfl⟩ := SlAt.some ht (hny (by omega))
   have r2 := sl_read ht (hgy k hlk)
   have hdyk := hdy k
   have hdv := ExP.dig_lt (b := 1000000000) (by omega) (i + k) U
   have r3 := valsK_get (k := .u32) (ExP.dgN_get 1000000000 (n + m) U (i + k) (by omega))
   have hst := fun nn => hstep (nn := nn) hT2 hlk
   have hset := fun d (hd : d < 1000000000) => ExP.dgN_set (b := 1000000000) (n := n + m) (V := U) (j := i + k) (d := d) (by omega) hd
   generalize ExP.dig 1000000000 k y = dy at *
   generalize ExP.dig 1000000000 (i + k) U = dv at *
   obtain ⟨nn, hnn⟩ : ∃ nn, nn = dx * dy + dv + c := ⟨_, rfl⟩
   have hst := hst nn hnn
   have hnn' : (dx : Int) * (dy : Int) + (dv : Int) + (c : Int) = (nn : Int) := by rw [hnn]; simp
   have hp0 : 0 ≤ (dx : Int) * (dy : Int) := Int.mul_nonneg (by omega) (by omega)
   have hp1 : (dx : Int) * (dy : Int) ≤ 999999998000000001 := by
    have : dx * dy ≤ 999999999 * 999999999 := Nat.mul_le_mul (by omega) (by omega)
    have h2 : ((dx * dy : Nat) : Int) ≤ 999999998000000001 := by omega
    simpa using h2
   repeat' (first | refine yX ?_ | (apply And.intro <;> intro _) | apply bothI | refine retB fun β => ?_ | intro βe | (refine opx_store env_ok 0 (u := .int .u32 ((nn % 1000000000 : Nat) : Int)) rfl rfl rfl rfl (fun β => by simp only [SV.den]; rw [hnn']; rfl) rfl rfl (by omega) ?_) | refine yO (x_len Tryz.underlying137) ?_ | refine yN (j := k) Tryz.underlying137 Tryz.sizeOf161 ?_ | refine yN (j := i + k) Tryz.underlying137 Tryz.sizeOf161 ?_ | refine yO (v := .int .u32 (dy : Nat)) (x_load1 (fun w => Tryz.isAgg161 w) (fun w' hb β => by rw [Nat.mul_one]; exact r2 w' hb)) ?_ | refine yO (v := .int .u32 (dv : Nat)) (x_loadO 0 (.int .u32 (dv : Nat)) (fun w => Tryz.isAgg161 w) rfl (fun β => by rw [Nat.mul_one]; exact r3)) ?_ | refine yO (x_rem (by omega) (by omega)) ?_ | refine yO (x_quo (by omega) (by omega) (by simp only [inK]; omega)) ?_ | exact trivial)
   refine hI2 _ ⟨(k + 1, nn / 1000000000, ExP.upd 1000000000 U (i + k) (nn % 1000000000)), by dsimp only; omega, hst⟩ (by dsimp only; omega) (by rw [hnn']; ((with_reducible show wk _ _); repeat' (first | exact trivial | exact eqSV_refl _ | refine eqI ?_ | refine eqS ?_ | apply And.intro | exact yV | fail)); all_goals (rw [Nat.mul_one, valsK_set, hset _ (Nat.mod_lt _ (by omega))]; exact fun b x h => h))
  ·obtain rfl : k = m := by omega
   obtain ⟨e1, e2⟩ := ExP.times_row (by omega) hT2 hyl
   have hset := ExP.dgN_set (b := 1000000000) (n := n + k) (V := U) (j := i + k) (d := c) (by omega) hcb
   repeat' (first | refine yX ?_ | (apply And.intro <;> intro _) | apply bothI | refine retB fun β => ?_ | intro βe | (refine opx_store env_ok 0 (u := .int .u32 (c : Nat)) rfl rfl rfl rfl (fun β => rfl) rfl rfl (by omega) ?_) | refine yO (x_len Tryz.underlying137) ?_ | refine yN (j := i + k) Tryz.underlying137 Tryz.sizeOf161 ?_ | exact trivial)
   refine hI _ ⟨(i + 1, ExP.upd 1000000000 U (i + k) c), by dsimp only; omega, e2⟩ (by dsimp only; omega) (by ((with_reducible show wk _ _); repeat' (first | exact trivial | exact eqSV_refl _ | refine eqI ?_ | refine eqS ?_ | apply And.intro | exact yV | fail)); all_goals (rw [Nat.mul_one, valsK_set, hset]; exact fun b x h => h))
 ·obtain rfl : i = n := by omega
  have e := hT.eq
  rw [Nat.mod_eq_of_lt hxl] at e
  obtain rfl : V = x * y := by simp [Nat.mod_one] at e; exact e
  have hl := hT.lt
  repeat' (first | refine yX ?_ | (apply And.intro <;> intro _) | apply bothI | refine retB fun β => ?_ | intro βe | refine yK (.any (.slice (some ⟨g, 0, none⟩) (ExP.nd 1000000000 (x * y)) (i + m))) (fun β w hm => hTR g (x * y) w hl (Mem.own hm 0 rfl).1) ?_ | exact trivial)
  refine ret fun β w' hm => ?_
  obtain ⟨q1, q2, q3⟩ := Mem.own hm 0 rfl
  have hle := ExP.nd_le (b := 1000000000) (by omega) hl
  exact ⟨_, i + m, rfl, sl_pre q1 (dgN_pre hle .u32), fresh_own q2 rfl, (fun h => by cases h), hle, hm.below⟩
theorem one_row {m : Nat} (h : m < 1000000000) : valsK .u32 (ExP.dgN 1000000000 1 m) = [.int .u32 (m : Nat)] := by rw [ExP.dig_self h]; rfl
theorem digit_any (a b : Option Addr) (ca cb r y : Nat) (w : World) (hw0 : 0 < w.heap.size) (hx : ExP.nd 1000000000 r ≤ 20000000) (hy : ExP.nd 1000000000 y ≤ 20000000) (hy0 : 0 < y) (hr : r < y * 1000000000) (hs : SlAt a (nv .u32 1000000000 r) w) (ht : SlAt b (nv .u32 1000000000 y) w) :
  QC 227 #[.slice a (ExP.nd 1000000000 r) ca, .slice b (ExP.nd 1000000000 y) cb] w (.int .u32 ((r / y : Nat) : Int)) := by
 have hu := Tryz.underlying137
 have hsz := fun w => Tryz.sizeOf161 w
 have hzv := fun w => Tryz.zeroValue161 w
 have HC := fun w' hb => compare_any a b ca cb r y w' (by omega) (by omega) (SlAt.below hs hb) (SlAt.below ht hb)
 have hsg := (ExP.cmp_sgn 1000000000 (x := r) (y := y) (by omega)).1
 generalize hcv : ExP.cmpN 1000000000 r y = cv at *
 by_cases hlt : r < y
 ·rw [Nat.div_eq_of_lt hlt]
  refine yE Tryz.func227 rfl Tryz.results227 Tryz.ntmps227 [] [] [.any (.slice a (ExP.nd 1000000000 r) ca), .any (.slice b (ExP.nd 1000000000 y) cb)] w ?_
  repeat' (first | refine yX ?_ | (apply And.intro <;> intro _) | apply bothI | refine retB fun β => ?_ | intro βe | refine yK (.int .i64 cv) (fun β w hm => HC w hm.below) ?_ | exact trivial)
  all_goals rfl
 ·have hnd : ExP.nd 1000000000 y ≤ ExP.nd 1000000000 r := ExP.nd_mono (by omega) (by omega)
  have hyp := (ExP.nd_pos (b := 1000000000) (by omega)).2 hy0
  obtain ⟨l1, l2⟩ := ExP.lead (b := 1000000000) (by omega) hy0
  have l3 := ExP.lead_lt (b := 1000000000) (by omega) hy0 hr
  have g1 := (ExP.guess_low (b := 1000000000) (r := r) (y := y) (k := ExP.nd 1000000000 y - 1)).resolve_right (by omega)
  have g2 := ExP.guess_top (b := 1000000000) (r := r) (y := y) (k := ExP.nd 1000000000 y - 1) (Nat.pow_pos (by omega)) l2
  have g3 : r / y < 1000000000 := Nat.div_lt_of_lt_mul hr
  have hrl := ExP.nd_lt (b := 1000000000) (by omega) r
  have hgr := fun i (h : i < ExP.nd 1000000000 r) => nv_get (k := .u32) h
  have hgy := fun i (h : i < ExP.nd 1000000000 y) => nv_get (k := .u32) h
  obtain ⟨ad, rfl⟩ := SlAt.some hs (nv_ne (by omega))
  obtain ⟨bd, rfl⟩ := SlAt.some ht (nv_ne (by omega))
  have hqm : ∀ m, y * m ≤ r ↔ m ≤ r / y := fun m => by rw [Nat.le_div_iff_mul_le hy0, Nat.mul_comm]
  have hmono : ∀ j, ExP.nd 1000000000 y - 1 ≤ j → r / 1000000000 ^ j ≤ r / 1000000000 ^ (ExP.nd 1000000000 y - 1) := fun j hj => Nat.div_le_div_left (Nat.pow_le_pow_right (by omega) hj) (Nat.pow_pos (by omega))
  refine yE Tryz.func227 rfl Tryz.results227 Tryz.ntmps227 [] [] [.any (.slice (some ad) (ExP.nd 1000000000 r) ca), .any (.slice (some bd) (ExP.nd 1000000000 y) cb)] w ?_
  have hTM := fun (g m : Nat) (hm : m < 1000000000) (w' : World) hb (h : SlAt (some ⟨g, 0, none⟩) (nv .u32 1000000000 m) w') => times_any (some bd) (some ⟨g, 0, none⟩) cb 1 y m w' (by omega) (by have := ExP.dg_one (b := 1000000000) (by omega) hm; omega) (SlAt.below ht hb) h
  have hCM := fun (a' : Option Addr) (c' m : Nat) (hm : m < 1000000000) (w' : World) hb (h : SlAt a' (nv .u32 1000000000 (y * m)) w') => compare_any a' (some ad) c' ca (y * m) r w' (by have := ExP.nd_mul (b := 1000000000) (x := y) (y := m) (by omega); have := ExP.dg_one (b := 1000000000) (by omega) hm; omega) (by omega) h (SlAt.below hs hb)
  generalize hN : ExP.nd 1000000000 r = n at *
  generalize hM : ExP.nd 1000000000 y = m at *
  obtain ⟨k, rfl⟩ : ∃ k, m = k + 1 := ⟨m - 1, by omega⟩
  rw [Nat.add_sub_cancel] at *
  repeat' (first | refine yX ?_ | (apply And.intro <;> intro _) | apply bothI | refine retB fun β => ?_ | intro βe | refine yK (.int .i64 cv) (fun β w hm => HC w hm.below) ?_ | refine yO (x_len Tryz.underlying137) ?_ | exact trivial)
  refine yZ (T := {j : Nat // k ≤ j ∧ j ≤ n}) (fun t => ⟨[(0, .any (.slice (some ad) n ca)), (1, .any (.slice (some bd) (k + 1) cb)), (5, .int .i64 (k : Nat)), (6, .int .u64 ((r / 1000000000 ^ t.1 : Nat) : Int)), (7, .int .i64 ((t.1 : Nat) - 1 : Int))], [], 0, 72⟩) (fun t => t.1) ⟨n, by omega, Nat.le_refl _⟩ [] [] (fun t I hI => ?_) (by rw [Nat.div_eq_of_lt hrl]; ((with_reducible show wk _ _); repeat' (first | exact trivial | exact eqSV_refl _ | refine eqI ?_ | refine eqS ?_ | apply And.intro | exact yV | fail)))
  obtain ⟨j, hj1, hj2⟩ := t
  dsimp only
  by_cases hjk : k < j
  ·obtain ⟨i, rfl⟩ : ∃ i, j = i + 1 := ⟨j - 1, by omega⟩
   have r1 := sl_read hs (hgr i (by omega))
   have e := ExP.div_pow 1000000000 r i
   have hb := hmono i (by omega)
   have hb2 := hmono (i + 1) (by omega)
   generalize ExP.dig 1000000000 i r = dr at *
   generalize r / 1000000000 ^ (i + 1) = H1 at *
   generalize hH0 : r / 1000000000 ^ i = H0 at *
   repeat' (first | refine yX ?_ | (apply And.intro <;> intro _) | apply bothI | refine retB fun β => ?_ | intro βe | refine yO (x_len Tryz.underlying137) ?_ | refine yN (j := i) Tryz.underlying137 Tryz.sizeOf161 ?_ | refine yO (v := .int .u32 (dr : Nat)) (x_load1 (fun w => Tryz.isAgg161 w) (fun w' hb β => by rw [Nat.mul_one]; exact r1 w' hb)) ?_ | exact trivial)
   refine hI _ ⟨i, by omega, by omega⟩ (by dsimp only; omega) (by rw [hH0]; ((with_reducible show wk _ _); repeat' (first | exact trivial | exact eqSV_refl _ | refine eqI ?_ | refine eqS ?_ | apply And.intro | exact yV | fail)))
  ·obtain rfl : j = k := by omega
   have r2 := sl_read ht (hgy j (by omega))
   rw [l1] at r2
   generalize y / 1000000000 ^ j = bk at *
   generalize r / 1000000000 ^ j = H at *
   generalize hq : r / y = q at *
   have hbkb : bk < 1000000000 := by rw [← l1]; exact ExP.dig_lt (by omega) _ _
   have e1 : (H : Int) / ((bk : Int) + 1) = ((H / (bk + 1) : Nat) : Int) := by simp
   have e2 : (H : Int) / (bk : Int) = ((H / bk : Nat) : Int) := by simp
   have hq1 : H / (bk + 1) ≤ H := Nat.div_le_self _ _
   have hq2 : H / bk ≤ H := Nat.div_le_self _ _
   generalize H / (bk + 1) = lo at *
   generalize H / bk = tp at *
   repeat' (first | refine yX ?_ | (apply And.intro <;> intro _) | apply bothI | refine retB fun β => ?_ | intro βe | refine yO (x_len Tryz.underlying137) ?_ | refine yN (j := j) Tryz.underlying137 Tryz.sizeOf161 ?_ | refine yO (v := .int .u32 (bk : Nat)) (x_load1 (fun w => Tryz.isAgg161 w) (fun w' hb β => by rw [Nat.mul_one]; exact r2 w' hb)) ?_ | refine yO (x_quo (by omega) (by omega) (by simp only [inK]; omega)) ?_ | exact trivial)
   refine yZ (T := {t : Nat × Nat // t.1 ≤ q ∧ q ≤ t.2 ∧ t.2 ≤ 999999999}) (fun t => ⟨[(0, .any (.slice (some ad) n ca)), (1, .any (.slice (some bd) (j + 1) cb)), (8, .int .u64 (t.1.1 : Nat)), (9, .int .u64 (t.1.2 : Nat))], [], 0, 72⟩) (fun t => t.1.2 - t.1.1) ⟨(lo, min tp 999999999), g1, by dsimp only; omega, by dsimp only; omega⟩ [] [] (fun t I hI => ?_) (by rw [e1, e2]; ((with_reducible show wk _ _); repeat' (first | exact trivial | exact eqSV_refl _ | refine eqI ?_ | refine eqS ?_ | apply And.intro | exact yV | fail)))
   obtain ⟨⟨l, t⟩, h1, h2, h3⟩ := t
   dsimp only at h1 h2 h3 ⊢
   by_cases hlt2 : l < t
   ·obtain ⟨mm, hmm⟩ : ∃ mm, mm = (l + t + 1) / 2 := ⟨_, rfl⟩
    have e3 : ((l : Int) + t + 1) / 2 = (mm : Int) := by omega
    have hm1 : mm < 1000000000 := by omega
    have hTR := fun g (w' : World) hs' => trim_any (some ⟨g, 0, none⟩) 1 1 mm w' (by simpa using hm1) (Nat.le_refl _) (by omega) hs'
    rw [one_row hm1] at hTR
    have hsg2 := (ExP.cmp_sgn 1000000000 (x := y * mm) (y := r) (by omega)).2.2
    have hqm := hqm mm
    have hCM := fun a' c' => hCM a' c' mm hm1
    have hpre : ∀ (i : Nat) (v : Value), (nv .u32 1000000000 mm)[i]? = some v → ([.int .u32 (mm : Nat)] : List Value)[i]? = some v := by rw [← one_row hm1]; exact dgN_pre (ExP.dg_one (by omega) hm1) .u32
    generalize ExP.cmpN 1000000000 (y * mm) r = cv2 at *
    repeat' (first | refine yX ?_ | (apply And.intro <;> intro _) | apply bothI | refine retB fun β => ?_ | intro βe | refine yK (.any (.slice (some ⟨g, 0, none⟩) (ExP.nd 1000000000 mm) 1)) (fun β w hm => hTR g w (Mem.own hm 0 rfl).1) ?_ | (refine callNat .u32 1000000000 (y * mm) hw0 (by kernel_rfl) rfl (fun β w' hm => hTM g mm hm1 w' hm.below (sl_pre (Mem.own hm 0 rfl).1 hpre)) (fun ta tca hn1 hc1 hs1 => ?_)) | refine yK (.int .i64 cv2) (fun β w hm => hCM ta tca w hm.below (Mem.slF hm 1 rfl)) ?_ | (refine opx_build1 (sz := 1) rfl rfl rfl (xs := [.int .u32 (mm : Nat)]) (fun β => by simp only [SV.dens, SV.den]; rw [e3]) rfl (by omega) (by omega) hu hsz hzv (fun g => ?_)) | refine yO (x_quo (by omega) (by omega) (by simp only [inK]; omega)) ?_ | exact trivial)
    ·refine hI _ ⟨(mm, t), by dsimp only; omega, by dsimp only; omega, by dsimp only; omega⟩ (by dsimp only; omega) (by rw [e3]; ((with_reducible show wk _ _); repeat' (first | exact trivial | exact eqSV_refl _ | refine eqI ?_ | refine eqS ?_ | apply And.intro | exact yV | fail)))
    ·refine hI _ ⟨(l, mm - 1), by dsimp only; omega, by dsimp only; omega, by dsimp only; omega⟩ (by dsimp only; omega) (by rw [e3]; ((with_reducible show wk _ _); repeat' (first | exact trivial | exact eqSV_refl _ | refine eqI ?_ | refine eqS ?_ | apply And.intro | exact yV | fail)))
   ·repeat' (first | refine yX ?_ | (apply And.intro <;> intro _) | apply bothI | refine retB fun β => ?_ | intro βe | exact trivial)
    show Value.int .u32 (l : Nat) = _
    congr 1; omega
end Go.Proofs.YtdkhkfdenlabaaaGreatDoor
