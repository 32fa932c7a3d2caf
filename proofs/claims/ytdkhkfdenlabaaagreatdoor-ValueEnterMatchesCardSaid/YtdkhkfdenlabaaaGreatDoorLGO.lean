/- Decimal numbers read: the program's Parse. Values, the program: numbers as they are entered. Values, the program: a number as it is entered, walked. Values, the program: a number as it is entered. Values, plainly: fractions that are not negative are added a -/
import Derived.Test.YtdkhkfdenlabaaaGreatDoorLGG
import Derived.Test.YtdkhkfdenlabaaaGreatDoorLGM
import Derived.Test.YtdkhkfdenlabaaaGreatDoorLGN
import Derived.Test.YtdkhkfdenlabaaaGreatDoorLGJ
set_option linter.unusedSimpArgs false
set_option linter.unusedVariables false
set_option maxRecDepth 100000
set_option maxHeartbeats 64000000
namespace Go.Proofs.YtdkhkfdenlabaaaGreatDoor
open Go.RowKit
open Sym
attribute [local irreducible] Calls Sym.AggEq ExP.nd ExP.dig ExP.upd ExP.writeF ExP.writeE
theorem cutD_any (s : List UInt8) (w : World) : QC 54 #[.string (bstr s), .string (bstr [46])] w (.tuple #[.string (bstr (if s.head? = some 46 then s.tail else s)), .bool (s.head? == some 46)]) := by
 refine (Tryz.strings_CutPrefix (bstr s) (bstr [46]) w).mono ?_
 rintro e w' ⟨h, rfl⟩
 refine ⟨?_, Below.refl _ _⟩
 rw [h, show (bstr s).data.toList = s from rfl, show (bstr [46]).data.toList = [46] from rfl]
 have key : Lib.trimPrefix s [46] = (if s.head? = some 46 then s.tail else s) ∧ Lib.hasPrefix s [46] = (s.head? == some 46) := by
  cases s with
  | nil => exact ⟨rfl, rfl⟩
  | cons c r =>
    by_cases h : c = 46
    ·subst h; simp [Lib.trimPrefix, Lib.hasPrefix]
    ·have h' : ¬ 46 = c := fun e => h e.symm
     simp [Lib.trimPrefix, Lib.hasPrefix, h, List.isPrefixOf, beq_eq_false_iff_ne.2 h']
 rw [key.1, key.2]; rfl
theorem ExP.nd_ten {b : Nat} (hb : 10 ≤ b) (k : Nat) : ExP.nd b (10 ^ k) ≤ k + 1 :=
 ExP.nd_le (by omega) (Nat.lt_of_lt_of_le (Nat.pow_lt_pow_right (by omega) (Nat.lt_succ_self k)) (Nat.pow_le_pow_left hb _))
theorem ExP.expV_le (s : List UInt8) (h : ExP.expB s = true) : -1000 < ExP.expV s ∧ ExP.expV s < 1000 := by
 cases s with
 | nil => exact ⟨by decide, by decide⟩
 | cons c t =>
   have hB : ExP.expB (c :: t) = ((c == 101 || c == 69) && ExP.expOK (ExP.sgnR t)) := rfl
   rw [hB, Bool.and_eq_true] at h
   have := ExP.val3 h.2
   have hV : ExP.expV (c :: t) = if ExP.sgnP t = true then -(ExP.valS (ExP.sgnR t) : Int) else (ExP.valS (ExP.sgnR t) : Int) := rfl
   rw [hV]
   split <;> omega
theorem parse_long (s : List UInt8) (w : World) (hw : XW w) (hw0 : 0 < w.heap.size) (hs : s.length ≤ 9223372036854775807) (h : 1000 < s.length) :
  Calls Tryz.prog 111 #[.string (bstr s)] w (WrOut ([], []) 3 w) := by
 refine yE Tryz.func111 rfl Tryz.results111 Tryz.ntmps111 [] [100018] [.str s] w ?_
 repeat' (first | refine yX ?_ | (apply And.intro <;> intro _) | apply bothI | refine retB fun β => ?_ | intro βe | exact trivial)
 all_goals first | rfl | (exfalso; omega)
theorem parse_point (s : List UInt8) (w : World) (hw : XW w) (hw0 : 0 < w.heap.size) (hs : s.length ≤ 9223372036854775807) (h : s.length ≤ 1000) (hx : ExP.parX (ExP.runR (ExP.cutM s).1) = true) :
  Calls Tryz.prog 111 #[.string (bstr s)] w (WrOut ([], []) 10 w) := by
 have HC := fun w => cutM_any s w
 have hL := cutM_len s
 have hR := ExP.run_len (ExP.cutM s).1
 have HR := fun w => run_any (ExP.cutM s).1 w (by omega)
 have HD := fun w => cutD_any (ExP.runR (ExP.cutM s).1) w
 simp only [ExP.parX, Bool.and_eq_true, beq_iff_eq, List.isEmpty_iff] at hx
 rw [if_pos hx.1, hx.1] at HD
 have HQ := fun w => run_any (ExP.runR (ExP.cutM s).1).tail w (by have : (ExP.runR (ExP.cutM s).1).tail.length ≤ (ExP.runR (ExP.cutM s).1).length := (by simp); omega)
 rw [hx.2] at HQ
 generalize ExP.runR (ExP.runR (ExP.cutM s).1).tail = r2 at *
 generalize (ExP.runR (ExP.cutM s).1).tail = u at *
 clear hx
 generalize ExP.runR (ExP.cutM s).1 = r1 at *
 generalize ExP.runD (ExP.cutM s).1 = W at *
 generalize (ExP.cutM s).2 = m at *
 generalize (ExP.cutM s).1 = rest at *
 refine yE Tryz.func111 rfl Tryz.results111 Tryz.ntmps111 [] [100018] [.str s] w ?_
 repeat' (first | refine yX ?_ | (apply And.intro <;> intro _) | apply bothI | refine retB fun β => ?_ | intro βe | refine yK (.tup [.str rest, .bool m]) (fun β w hm => HC w) ?_ | refine yK (.tup [.str W, .str r1]) (fun β w hm => HR w) ?_ | refine yK (.tup [.str u, .lit true]) (fun β w hm => HD w) ?_ | refine yK (.tup [.str [], .str r2]) (fun β w hm => HQ w) ?_ | exact trivial)
 all_goals first | rfl | (exfalso; omega) | (exfalso; simp_all; done)
theorem parse_bad1 (s : List UInt8) (w : World) (hw : XW w) (hw0 : 0 < w.heap.size) (hs : s.length ≤ 9223372036854775807) (h : s.length ≤ 1000) (hx : ExP.parX (ExP.runR (ExP.cutM s).1) ≠ true) (hp : (ExP.runR (ExP.cutM s).1).head? = some 46) (hb : ExP.decW s = [] ∨ ExP.expB (ExP.decT s) = false) :
  Calls Tryz.prog 111 #[.string (bstr s)] w (WrOut ([], []) 10 w) := by
 have HC := fun w => cutM_any s w
 have hL := cutM_len s
 have hR := ExP.run_len (ExP.cutM s).1
 have HR := fun w => run_any (ExP.cutM s).1 w (by omega)
 have HD := fun w => cutD_any (ExP.runR (ExP.cutM s).1) w
 have hpx : (ExP.runR (ExP.cutM s).1).head? = some 46 := hp
 have eP : ExP.decP s = ExP.runD (ExP.runR (ExP.cutM s).1).tail := by unfold ExP.decP ExP.parD; rw [if_pos hp]
 have eT : ExP.decT s = ExP.runR (ExP.runR (ExP.cutM s).1).tail := by unfold ExP.decT ExP.parR; rw [if_pos hp]
 have hP0 : ExP.runD (ExP.runR (ExP.cutM s).1).tail ≠ [] := by
  intro h0
  unfold ExP.parX at hx
  rw [hp, h0] at hx
  exact absurd hx (by decide)
 rw [if_pos hp, hp, show ((some (46 : UInt8)) == some 46) = true from rfl] at HD
 have ht : (ExP.runR (ExP.cutM s).1).tail.length ≤ (ExP.runR (ExP.cutM s).1).length := by simp
 have hQ := ExP.run_len (ExP.runR (ExP.cutM s).1).tail
 have hPa := ExP.runD_all (ExP.runR (ExP.cutM s).1).tail
 have HQ := fun w => run_any (ExP.runR (ExP.cutM s).1).tail w (by omega)
 have hTl : (ExP.decT s).length ≤ 1000 := by rw [eT]; omega
 have hPl : (ExP.decP s).length ≤ 1000 := by rw [eP]; omega
 have hPW : (ExP.decW s).length + (ExP.decP s).length ≤ 1000 := by rw [eP]; unfold ExP.decW; omega
 rw [← eP] at hP0 hPa HQ
 rw [← eT] at HQ
 have HX := fun w => exponent_any (ExP.decT s) w (by omega)
 have eW : ExP.runD (ExP.cutM s).1 = ExP.decW s := rfl
 rw [eW] at HR hR
 clear hQ ht hpx
 generalize (ExP.runR (ExP.cutM s).1).tail = u at *
 clear hp hx
 generalize ExP.runR (ExP.cutM s).1 = r1 at *
 clear eW eT eP
 generalize (ExP.cutM s).2 = m at *
 generalize (ExP.cutM s).1 = rest at *
 generalize ExP.decW s = W at *
 generalize ExP.decT s = T at *
 generalize ExP.decP s = P at *
 generalize ExP.expV T = v at *
 generalize ExP.expB T = ok at *
 refine yE Tryz.func111 rfl Tryz.results111 Tryz.ntmps111 [] [100018] [.str s] w ?_
 by_cases hW : W = []
 ·subst hW
  repeat' (first | refine yX ?_ | (apply And.intro <;> intro _) | apply bothI | refine retB fun β => ?_ | intro βe | refine yK (.tup [.str rest, .bool m]) (fun β w hm => HC w) ?_ | refine yK (.tup [.str [], .str r1]) (fun β w hm => HR w) ?_ | refine yK (.tup [.str u, .lit true]) (fun β w hm => HD w) ?_ | refine yK (.tup [.str P, .str T]) (fun β w hm => HQ w) ?_ | refine yK (.tup [.int .i64 (if ok = true then v else 0), .bool ok]) (fun β w hm => HX w) ?_ | exact trivial)
  all_goals first | rfl | (exfalso; omega) | (exfalso; simp_all; done)
 ·have hok : ok = false := hb.resolve_left hW
  subst hok
  repeat' (first | refine yX ?_ | (apply And.intro <;> intro _) | apply bothI | refine retB fun β => ?_ | intro βe | refine yK (.tup [.str rest, .bool m]) (fun β w hm => HC w) ?_ | refine yK (.tup [.str W, .str r1]) (fun β w hm => HR w) ?_ | refine yK (.tup [.str u, .lit true]) (fun β w hm => HD w) ?_ | refine yK (.tup [.str P, .str T]) (fun β w hm => HQ w) ?_ | refine yK (.tup [.int .i64 (if false = true then v else 0), .bool false]) (fun β w hm => HX w) ?_ | exact trivial)
  all_goals first | rfl | (exfalso; omega) | (exfalso; simp_all; done)
theorem parse_good1 (s : List UInt8) (w : World) (hw : XW w) (hw0 : 0 < w.heap.size) (hs : s.length ≤ 9223372036854775807) (h : s.length ≤ 1000) (hx : ExP.parX (ExP.runR (ExP.cutM s).1) ≠ true) (hp : (ExP.runR (ExP.cutM s).1).head? = some 46) (hW : ExP.decW s ≠ []) (hB : ExP.expB (ExP.decT s) = true) :
  Calls Tryz.prog 111 #[.string (bstr s)] w (WrOut (ExP.writeF (ExP.decN s)) (ExP.writeE (ExP.decN s)) w) := by
 have HC := fun w => cutM_any s w
 have hL := cutM_len s
 have hR := ExP.run_len (ExP.cutM s).1
 have HR := fun w => run_any (ExP.cutM s).1 w (by omega)
 have HD := fun w => cutD_any (ExP.runR (ExP.cutM s).1) w
 have hpx : (ExP.runR (ExP.cutM s).1).head? = some 46 := hp
 have eP : ExP.decP s = ExP.runD (ExP.runR (ExP.cutM s).1).tail := by unfold ExP.decP ExP.parD; rw [if_pos hp]
 have eT : ExP.decT s = ExP.runR (ExP.runR (ExP.cutM s).1).tail := by unfold ExP.decT ExP.parR; rw [if_pos hp]
 have hP0 : ExP.runD (ExP.runR (ExP.cutM s).1).tail ≠ [] := by
  intro h0
  unfold ExP.parX at hx
  rw [hp, h0] at hx
  exact absurd hx (by decide)
 rw [if_pos hp, hp, show ((some (46 : UInt8)) == some 46) = true from rfl] at HD
 have ht : (ExP.runR (ExP.cutM s).1).tail.length ≤ (ExP.runR (ExP.cutM s).1).length := by simp
 have hQ := ExP.run_len (ExP.runR (ExP.cutM s).1).tail
 have hPa := ExP.runD_all (ExP.runR (ExP.cutM s).1).tail
 have HQ := fun w => run_any (ExP.runR (ExP.cutM s).1).tail w (by omega)
 have hTl : (ExP.decT s).length ≤ 1000 := by rw [eT]; omega
 have hPl : (ExP.decP s).length ≤ 1000 := by rw [eP]; omega
 have hPW : (ExP.decW s).length + (ExP.decP s).length ≤ 1000 := by rw [eP]; unfold ExP.decW; omega
 rw [← eP] at hP0 hPa HQ
 rw [← eT] at HQ
 have HX := fun w => exponent_any (ExP.decT s) w (by omega)
 have hv := ExP.expV_le _ hB
 simp only [hB, if_true] at HX
 have hWa : (ExP.decW s).all ExP.digC = true := ExP.runD_all _
 have ha : (ExP.decW s ++ ExP.decP s).all ExP.digC = true := by rw [List.all_append, hWa, hPa]; rfl
 have HP := fun w => parse_any (ExP.decW s ++ ExP.decP s) w (by rw [List.length_append]; omega) ha
 have hn := ExP.nd_val (b := 1000000000) (by omega) ha
 rw [List.length_append] at hn
 have hN : ExP.decN s = ExP.scaleN ⟨(ExP.cutM s).2, ExP.valS (ExP.decW s ++ ExP.decP s), 1⟩ (ExP.expV (ExP.decT s) - ((ExP.decP s).length : Int)) := rfl
 obtain ⟨i0, hi, hz0, hz1, hz2⟩ := info_parts u32Info
 have hu := Tryz.underlying137
 have hsz := fun w => Tryz.sizeOf161 w
 have hzv := fun w => Tryz.zeroValue161 w
 have hn1 : ExP.nd 1000000000 1 = 1 := ExP.nd_one (by omega)
 have hv1 : nv .u32 1000000000 1 = [.int .u32 1] := nv_one (by omega)
 have W1 := fun (x : FrV) (w' : World) (h : BW w w') => write_any x w' (hw.below h) (Nat.lt_of_lt_of_le hw0 h.size)
 have eW : ExP.runD (ExP.cutM s).1 = ExP.decW s := rfl
 rw [eW] at HR hR
 clear hQ ht hpx
 generalize (ExP.runR (ExP.cutM s).1).tail = u at *
 clear hp hx
 generalize ExP.runR (ExP.cutM s).1 = r1 at *
 clear eW eT eP
 generalize (ExP.cutM s).2 = m at *
 generalize (ExP.cutM s).1 = rest at *
 generalize ExP.decW s = W at *
 generalize ExP.decT s = T at *
 generalize ExP.decP s = P at *
 generalize ExP.expV T = v at *
 generalize ExP.valS (W ++ P) = V at *
 generalize ExP.decN s = N at *
 obtain ⟨k, hk⟩ : ∃ k, k = (v - ((P).length : Int)).natAbs := ⟨_, rfl⟩
 have hk2 : k ≤ 2000 := by (try simp only [List.length_nil] at hk); omega
 have HT := fun (w' : World) (h : BW w w') => ten_any k w' (Nat.lt_of_lt_of_le hw0 h.size) (by omega)
 have hnt := ExP.nd_ten (b := 1000000000) (by omega) k
 have hnm := ExP.nd_mul (b := 1000000000) (x := V) (y := 10 ^ k) (by omega)
 have hkp : 0 < 10 ^ k := Nat.pow_pos (by omega)
 by_cases hneg : v - ((P).length : Int) < 0
 ·have hN2 : N = ⟨m, V, 10 ^ k⟩ := by
   rw [hN, ExP.scaleN, if_pos hneg, ← hk]
   simp
  rw [hN2]
  have hkk : 0 - (v - ((P).length : Int)) = (k : Int) := by omega
  clear hN hN2
  refine yE Tryz.func111 rfl Tryz.results111 Tryz.ntmps111 [] [100018] [.str s] w ?_
  repeat' (first | refine yX ?_ | (apply And.intro <;> intro _) | apply bothI | refine retB fun β => ?_ | intro βe | refine yK (.tup [.str rest, .bool m]) (fun β w hm => HC w) ?_ | refine yK (.tup [.str W, .str r1]) (fun β w hm => HR w) ?_ | refine yK (.tup [.str u, .lit true]) (fun β w hm => HD w) ?_ | refine yK (.tup [.str P, .str T]) (fun β w hm => HQ w) ?_ | refine yK (.tup [.int .i64 v, .bool true]) (fun β w hm => HX w) ?_ | (refine callNat .u32 1000000000 V hw0 (by kernel_rfl) rfl (fun β w' hm => HP w') (fun a1 c1 q1 q2 q3 => ?_)) | (refine callNat .u32 1000000000 (10 ^ k) hw0 (by kernel_rfl) rfl (fun β w' hm => by simp only [SV.dens, SV.den]; rw [hkk]; exact HT w' hm.below) (fun a2 c2 q4 q5 q6 => ?_)) | refine yK (.tup [.agg [.str (ExP.writeF ⟨m, V, 10 ^ k⟩).1, .str (ExP.writeF ⟨m, V, 10 ^ k⟩).2], .int .i64 (ExP.writeE ⟨m, V, 10 ^ k⟩)]) (fun β w hm => W1 ⟨m, V, 10 ^ k, a1, c1, a2, c2⟩ w hm.below (FrIn.of (ySl hm) (ySl hm) ⟨q1, q4, q2, q5⟩) hkp (by dsimp only; omega) (by dsimp only; omega)) ?_ | (refine opx_build1 (sz := 1) rfl rfl rfl (xs := [.int .u32 1]) (fun β => rfl) rfl (by omega) (by omega) hu hsz hzv (fun g1 => ?_)) | exact trivial)
  all_goals first | rfl | (exfalso; omega) | (exfalso; simp_all; done)
 ·have hN2 : N = ⟨m, V * 10 ^ k, 1⟩ := by
   rw [hN, ExP.scaleN, if_neg hneg, ← hk]
  rw [hN2]
  have hkk : v - ((P).length : Int) = (k : Int) := by omega
  clear hN hN2
  refine yE Tryz.func111 rfl Tryz.results111 Tryz.ntmps111 [] [100018] [.str s] w ?_
  repeat' (first | refine yX ?_ | (apply And.intro <;> intro _) | apply bothI | refine retB fun β => ?_ | intro βe | refine yK (.tup [.str rest, .bool m]) (fun β w hm => HC w) ?_ | refine yK (.tup [.str W, .str r1]) (fun β w hm => HR w) ?_ | refine yK (.tup [.str u, .lit true]) (fun β w hm => HD w) ?_ | refine yK (.tup [.str P, .str T]) (fun β w hm => HQ w) ?_ | refine yK (.tup [.int .i64 v, .bool true]) (fun β w hm => HX w) ?_ | (refine callNat .u32 1000000000 V hw0 (by kernel_rfl) rfl (fun β w' hm => HP w') (fun a1 c1 q1 q2 q3 => ?_)) | (refine callNat .u32 1000000000 (10 ^ k) hw0 (by kernel_rfl) rfl (fun β w' hm => by simp only [SV.dens, SV.den]; rw [hkk]; exact HT w' hm.below) (fun a2 c2 q4 q5 q6 => ?_)) | (refine callNat .u32 1000000000 (V * 10 ^ k) hw0 (by kernel_rfl) rfl (fun β w' hm => times_any a1 a2 c1 c2 V (10 ^ k) w' (by omega) (by omega) (ySl hm) (ySl hm)) (fun a3 c3 q7 q8 q9 => ?_)) | refine yK (.tup [.agg [.str (ExP.writeF ⟨m, V * 10 ^ k, 1⟩).1, .str (ExP.writeF ⟨m, V * 10 ^ k, 1⟩).2], .int .i64 (ExP.writeE ⟨m, V * 10 ^ k, 1⟩)]) (fun β w hm => by have W2 := W1 ⟨m, V * 10 ^ k, 1, a3, c3, some ⟨g1, 0, none⟩, 1⟩ w hm.below (FrIn.of (ySl hm) (by rw [hv1]; first | exact (hm.own 1 rfl).1 | exact (hm.own 2 rfl).1 | exact (hm.own 3 rfl).1) ⟨q7, (fun h => by cases h), q8, by dsimp only; omega⟩) (by dsimp only; omega) (by dsimp only; omega) (by dsimp only; omega); simp only [FrV.val, hn1] at W2; exact W2) ?_ | (refine opx_build1 (sz := 1) rfl rfl rfl (xs := [.int .u32 1]) (fun β => rfl) rfl (by omega) (by omega) hu hsz hzv (fun g1 => ?_)) | exact trivial)
  all_goals first | rfl | (exfalso; omega) | (exfalso; simp_all; done)
theorem parse_bad0 (s : List UInt8) (w : World) (hw : XW w) (hw0 : 0 < w.heap.size) (hs : s.length ≤ 9223372036854775807) (h : s.length ≤ 1000) (hx : ExP.parX (ExP.runR (ExP.cutM s).1) ≠ true) (hp : (ExP.runR (ExP.cutM s).1).head? ≠ some 46) (hb : ExP.decW s = [] ∨ ExP.expB (ExP.decT s) = false) :
  Calls Tryz.prog 111 #[.string (bstr s)] w (WrOut ([], []) 10 w) := by
 have HC := fun w => cutM_any s w
 have hL := cutM_len s
 have hR := ExP.run_len (ExP.cutM s).1
 have HR := fun w => run_any (ExP.cutM s).1 w (by omega)
 have HD := fun w => cutD_any (ExP.runR (ExP.cutM s).1) w
 have hpx : (ExP.runR (ExP.cutM s).1).head? ≠ some 46 := hp
 have eP : ExP.decP s = [] := by unfold ExP.decP ExP.parD; rw [if_neg hp]
 have eT : ExP.decT s = ExP.runR (ExP.cutM s).1 := by unfold ExP.decT ExP.parR; rw [if_neg hp]
 rw [if_neg hp, beq_eq_false_iff_ne.2 hp] at HD
 have hTl : (ExP.decT s).length ≤ 1000 := by rw [eT]; omega
 have hPa : (ExP.decP s).all ExP.digC = true := by rw [eP]; rfl
 have hPl : (ExP.decP s).length ≤ 1000 := by rw [eP]; simp
 have hPW : (ExP.decW s).length + (ExP.decP s).length ≤ 1000 := by rw [eP]; unfold ExP.decW; simp; omega
 rw [← eT] at HD HR
 have HX := fun w => exponent_any (ExP.decT s) w (by omega)
 have eW : ExP.runD (ExP.cutM s).1 = ExP.decW s := rfl
 rw [eW] at HR hR
 clear hpx hp hx hR
 clear eW eT eP
 generalize (ExP.cutM s).2 = m at *
 generalize (ExP.cutM s).1 = rest at *
 generalize ExP.decW s = W at *
 generalize ExP.decT s = T at *
 generalize ExP.expV T = v at *
 generalize ExP.expB T = ok at *
 refine yE Tryz.func111 rfl Tryz.results111 Tryz.ntmps111 [] [100018] [.str s] w ?_
 by_cases hW : W = []
 ·subst hW
  repeat' (first | refine yX ?_ | (apply And.intro <;> intro _) | apply bothI | refine retB fun β => ?_ | intro βe | refine yK (.tup [.str rest, .bool m]) (fun β w hm => HC w) ?_ | refine yK (.tup [.str [], .str T]) (fun β w hm => HR w) ?_ | refine yK (.tup [.str T, .lit false]) (fun β w hm => HD w) ?_ | refine yK (.tup [.int .i64 (if ok = true then v else 0), .bool ok]) (fun β w hm => HX w) ?_ | exact trivial)
  all_goals first | rfl | (exfalso; omega) | (exfalso; simp_all; done)
 ·have hok : ok = false := hb.resolve_left hW
  subst hok
  repeat' (first | refine yX ?_ | (apply And.intro <;> intro _) | apply bothI | refine retB fun β => ?_ | intro βe | refine yK (.tup [.str rest, .bool m]) (fun β w hm => HC w) ?_ | refine yK (.tup [.str W, .str T]) (fun β w hm => HR w) ?_ | refine yK (.tup [.str T, .lit false]) (fun β w hm => HD w) ?_ | refine yK (.tup [.int .i64 (if false = true then v else 0), .bool false]) (fun β w hm => HX w) ?_ | exact trivial)
  all_goals first | rfl | (exfalso; omega) | (exfalso; simp_all; done)
theorem parse_good0 (s : List UInt8) (w : World) (hw : XW w) (hw0 : 0 < w.heap.size) (hs : s.length ≤ 9223372036854775807) (h : s.length ≤ 1000) (hx : ExP.parX (ExP.runR (ExP.cutM s).1) ≠ true) (hp : (ExP.runR (ExP.cutM s).1).head? ≠ some 46) (hW : ExP.decW s ≠ []) (hB : ExP.expB (ExP.decT s) = true) :
  Calls Tryz.prog 111 #[.string (bstr s)] w (WrOut (ExP.writeF (ExP.decN s)) (ExP.writeE (ExP.decN s)) w) := by
 have HC := fun w => cutM_any s w
 have hL := cutM_len s
 have hR := ExP.run_len (ExP.cutM s).1
 have HR := fun w => run_any (ExP.cutM s).1 w (by omega)
 have HD := fun w => cutD_any (ExP.runR (ExP.cutM s).1) w
 have hpx : (ExP.runR (ExP.cutM s).1).head? ≠ some 46 := hp
 have eP : ExP.decP s = [] := by unfold ExP.decP ExP.parD; rw [if_neg hp]
 have eT : ExP.decT s = ExP.runR (ExP.cutM s).1 := by unfold ExP.decT ExP.parR; rw [if_neg hp]
 rw [if_neg hp, beq_eq_false_iff_ne.2 hp] at HD
 have hTl : (ExP.decT s).length ≤ 1000 := by rw [eT]; omega
 have hPa : (ExP.decP s).all ExP.digC = true := by rw [eP]; rfl
 have hPl : (ExP.decP s).length ≤ 1000 := by rw [eP]; simp
 have hPW : (ExP.decW s).length + (ExP.decP s).length ≤ 1000 := by rw [eP]; unfold ExP.decW; simp; omega
 rw [← eT] at HD HR
 have HX := fun w => exponent_any (ExP.decT s) w (by omega)
 have hv := ExP.expV_le _ hB
 simp only [hB, if_true] at HX
 have hWa : (ExP.decW s).all ExP.digC = true := ExP.runD_all _
 have ha : (ExP.decW s ++ ExP.decP s).all ExP.digC = true := by rw [List.all_append, hWa, hPa]; rfl
 have HP := fun w => parse_any (ExP.decW s ++ ExP.decP s) w (by rw [List.length_append]; omega) ha
 have hn := ExP.nd_val (b := 1000000000) (by omega) ha
 rw [List.length_append] at hn
 have hN : ExP.decN s = ExP.scaleN ⟨(ExP.cutM s).2, ExP.valS (ExP.decW s ++ ExP.decP s), 1⟩ (ExP.expV (ExP.decT s) - ((ExP.decP s).length : Int)) := rfl
 obtain ⟨i0, hi, hz0, hz1, hz2⟩ := info_parts u32Info
 have hu := Tryz.underlying137
 have hsz := fun w => Tryz.sizeOf161 w
 have hzv := fun w => Tryz.zeroValue161 w
 have hn1 : ExP.nd 1000000000 1 = 1 := ExP.nd_one (by omega)
 have hv1 : nv .u32 1000000000 1 = [.int .u32 1] := nv_one (by omega)
 have W1 := fun (x : FrV) (w' : World) (h : BW w w') => write_any x w' (hw.below h) (Nat.lt_of_lt_of_le hw0 h.size)
 have eW : ExP.runD (ExP.cutM s).1 = ExP.decW s := rfl
 rw [eW] at HR hR
 clear hpx hp hx hR
 rw [eP] at HP hn hN hPW hPl ha
 clear eW eT eP
 generalize (ExP.cutM s).2 = m at *
 generalize (ExP.cutM s).1 = rest at *
 generalize ExP.decW s = W at *
 generalize ExP.decT s = T at *
 generalize ExP.expV T = v at *
 generalize ExP.valS (W ++ ([] : List UInt8)) = V at *
 generalize ExP.decN s = N at *
 obtain ⟨k, hk⟩ : ∃ k, k = (v - ((([] : List UInt8)).length : Int)).natAbs := ⟨_, rfl⟩
 have hk2 : k ≤ 2000 := by (try simp only [List.length_nil] at hk); omega
 have HT := fun (w' : World) (h : BW w w') => ten_any k w' (Nat.lt_of_lt_of_le hw0 h.size) (by omega)
 have hnt := ExP.nd_ten (b := 1000000000) (by omega) k
 have hnm := ExP.nd_mul (b := 1000000000) (x := V) (y := 10 ^ k) (by omega)
 have hkp : 0 < 10 ^ k := Nat.pow_pos (by omega)
 by_cases hneg : v - ((([] : List UInt8)).length : Int) < 0
 ·have hN2 : N = ⟨m, V, 10 ^ k⟩ := by
   rw [hN, ExP.scaleN, if_pos hneg, ← hk]
   simp
  rw [hN2]
  have hkk : 0 - (v - ((([] : List UInt8)).length : Int)) = (k : Int) := by omega
  clear hN hN2
  refine yE Tryz.func111 rfl Tryz.results111 Tryz.ntmps111 [] [100018] [.str s] w ?_
  repeat' (first | refine yX ?_ | (apply And.intro <;> intro _) | apply bothI | refine retB fun β => ?_ | intro βe | refine yK (.tup [.str rest, .bool m]) (fun β w hm => HC w) ?_ | refine yK (.tup [.str W, .str T]) (fun β w hm => HR w) ?_ | refine yK (.tup [.str T, .lit false]) (fun β w hm => HD w) ?_ | refine yK (.tup [.int .i64 v, .bool true]) (fun β w hm => HX w) ?_ | (refine callNat .u32 1000000000 V hw0 (by kernel_rfl) rfl (fun β w' hm => HP w') (fun a1 c1 q1 q2 q3 => ?_)) | (refine callNat .u32 1000000000 (10 ^ k) hw0 (by kernel_rfl) rfl (fun β w' hm => by simp only [SV.dens, SV.den]; rw [hkk]; exact HT w' hm.below) (fun a2 c2 q4 q5 q6 => ?_)) | refine yK (.tup [.agg [.str (ExP.writeF ⟨m, V, 10 ^ k⟩).1, .str (ExP.writeF ⟨m, V, 10 ^ k⟩).2], .int .i64 (ExP.writeE ⟨m, V, 10 ^ k⟩)]) (fun β w hm => W1 ⟨m, V, 10 ^ k, a1, c1, a2, c2⟩ w hm.below (FrIn.of (ySl hm) (ySl hm) ⟨q1, q4, q2, q5⟩) hkp (by dsimp only; omega) (by dsimp only; omega)) ?_ | (refine opx_build1 (sz := 1) rfl rfl rfl (xs := [.int .u32 1]) (fun β => rfl) rfl (by omega) (by omega) hu hsz hzv (fun g1 => ?_)) | exact trivial)
  all_goals first | rfl | (exfalso; omega) | (exfalso; simp_all; done)
 ·have hN2 : N = ⟨m, V * 10 ^ k, 1⟩ := by
   rw [hN, ExP.scaleN, if_neg hneg, ← hk]
  rw [hN2]
  have hkk : v - ((([] : List UInt8)).length : Int) = (k : Int) := by omega
  clear hN hN2
  refine yE Tryz.func111 rfl Tryz.results111 Tryz.ntmps111 [] [100018] [.str s] w ?_
  repeat' (first | refine yX ?_ | (apply And.intro <;> intro _) | apply bothI | refine retB fun β => ?_ | intro βe | refine yK (.tup [.str rest, .bool m]) (fun β w hm => HC w) ?_ | refine yK (.tup [.str W, .str T]) (fun β w hm => HR w) ?_ | refine yK (.tup [.str T, .lit false]) (fun β w hm => HD w) ?_ | refine yK (.tup [.int .i64 v, .bool true]) (fun β w hm => HX w) ?_ | (refine callNat .u32 1000000000 V hw0 (by kernel_rfl) rfl (fun β w' hm => HP w') (fun a1 c1 q1 q2 q3 => ?_)) | (refine callNat .u32 1000000000 (10 ^ k) hw0 (by kernel_rfl) rfl (fun β w' hm => by simp only [SV.dens, SV.den]; rw [hkk]; exact HT w' hm.below) (fun a2 c2 q4 q5 q6 => ?_)) | (refine callNat .u32 1000000000 (V * 10 ^ k) hw0 (by kernel_rfl) rfl (fun β w' hm => times_any a1 a2 c1 c2 V (10 ^ k) w' (by omega) (by omega) (ySl hm) (ySl hm)) (fun a3 c3 q7 q8 q9 => ?_)) | refine yK (.tup [.agg [.str (ExP.writeF ⟨m, V * 10 ^ k, 1⟩).1, .str (ExP.writeF ⟨m, V * 10 ^ k, 1⟩).2], .int .i64 (ExP.writeE ⟨m, V * 10 ^ k, 1⟩)]) (fun β w hm => by have W2 := W1 ⟨m, V * 10 ^ k, 1, a3, c3, some ⟨g1, 0, none⟩, 1⟩ w hm.below (FrIn.of (ySl hm) (by rw [hv1]; first | exact (hm.own 1 rfl).1 | exact (hm.own 2 rfl).1 | exact (hm.own 3 rfl).1) ⟨q7, (fun h => by cases h), q8, by dsimp only; omega⟩) (by dsimp only; omega) (by dsimp only; omega) (by dsimp only; omega); simp only [FrV.val, hn1] at W2; exact W2) ?_ | (refine opx_build1 (sz := 1) rfl rfl rfl (xs := [.int .u32 1]) (fun β => rfl) rfl (by omega) (by omega) hu hsz hzv (fun g1 => ?_)) | exact trivial)
  all_goals first | rfl | (exfalso; omega) | (exfalso; simp_all; done)
theorem parse_law (s : List UInt8) (w : World) (hw : XW w) (hw0 : 0 < w.heap.size) (hs : s.length ≤ 9223372036854775807) :
  Calls Tryz.prog 111 #[.string (bstr s)] w (WrOut (if ExP.parE s = 0 then ExP.writeF (ExP.decN s) else ([], [])) (if ExP.parE s = 0 then ExP.writeE (ExP.decN s) else ExP.parE s) w) := by
 have hE : ExP.parE s = if 1000 < s.length then 3 else if ExP.parX (ExP.runR (ExP.cutM s).1) = true ∨ ExP.decW s = [] ∨ ExP.expB (ExP.decT s) = false then 10 else 0 := rfl
 by_cases h : 1000 < s.length
 ·rw [if_pos h] at hE
  rw [hE]
  exact parse_long s w hw hw0 hs h
 rw [if_neg h] at hE
 by_cases hx : ExP.parX (ExP.runR (ExP.cutM s).1) = true
 ·rw [if_pos (.inl hx)] at hE
  rw [hE]
  exact parse_point s w hw hw0 hs (by omega) hx
 by_cases hb : ExP.decW s = [] ∨ ExP.expB (ExP.decT s) = false
 ·rw [if_pos (.inr hb)] at hE
  rw [hE]
  by_cases hp : (ExP.runR (ExP.cutM s).1).head? = some 46
  ·exact parse_bad1 s w hw hw0 hs (by omega) hx hp hb
  ·exact parse_bad0 s w hw hw0 hs (by omega) hx hp hb
 ·rw [if_neg (fun h => h.elim hx hb)] at hE
  rw [hE]
  simp only [not_or, Bool.not_eq_false] at hb
  by_cases hp : (ExP.runR (ExP.cutM s).1).head? = some 46
  ·exact parse_good1 s w hw hw0 hs (by omega) hx hp hb.1 hb.2
  ·exact parse_good0 s w hw hw0 hs (by omega) hx hp hb.1 hb.2
theorem vdigits_any (s : List UInt8) (w : World) (hs : s.length ≤ 9223372036854775807) : QC 119 #[.string (bstr s)] w (.tuple #[.string (bstr (ExP.runD s)), .string (bstr (ExP.runR s))]) := by
 have HT := fun w => trimLeft_any s w
 have h1 := ExP.run_len s
 have h2 := ExP.run_take s
 generalize ExP.runR s = r at *
 refine yE Tryz.func119 rfl Tryz.results119 Tryz.ntmps119 [] [] [.str s] w ?_
 repeat' (first | refine yX ?_ | (apply And.intro <;> intro _) | apply bothI | refine retB fun β => ?_ | intro βe | refine yK (.str r) (fun β w hm => HT w) ?_ | ((with_reducible show ∃ _, _); first | (refine ⟨s.length - r.length, by omega, by omega, ?_⟩)) | exact trivial)
 all_goals first | (rw [h2]; rfl) | (simp [SV.den, SV.dens, h2]; done) | skip
theorem cutPct_any (s : List UInt8) (w : World) (hs : s.length ≤ 9223372036854775807) : QC 110 #[.string (bstr s), .string (bstr [37])] w (.tuple #[.string (bstr (VaP.cutP s).1), .bool (VaP.cutP s).2]) := by
 refine (Tryz.strings_CutSuffix (bstr s) (bstr [37]) w hs).mono ?_
 rintro e w' ⟨h, rfl⟩
 refine ⟨?_, Below.refl _ _⟩
 rw [h, show (bstr s).data.toList = s from rfl, show (bstr [37]).data.toList = [37] from rfl]
 have e1 : Lib.hasSuffix s [37] = decide (s.getLast? = some 37) := by
  rw [Bool.eq_iff_iff, decide_eq_true_eq]
  unfold Lib.hasSuffix
  rw [List.isSuffixOf_iff_suffix]
  constructor
  ·rintro ⟨t, rfl⟩; simp
  ·intro h
   obtain ⟨t, rfl⟩ := List.getLast?_eq_some_iff.1 h
   exact ⟨t, rfl⟩
 unfold Lib.trimSuffix VaP.cutP
 rw [e1]
 by_cases hl : s.getLast? = some 37
 ·rw [decide_eq_true hl, if_pos rfl, if_pos hl]
  obtain ⟨t, rfl⟩ := List.getLast?_eq_some_iff.1 hl
  have e2 : (t ++ [37]).take ((t ++ [37]).length - 1) = t := by simp
  show Ending.returned (.tuple #[.string (bstr ((t ++ [37]).take ((t ++ [37]).length - 1))), .bool true]) = _
  rw [e2, List.dropLast_concat]
 ·rw [decide_eq_false hl, if_neg Bool.false_ne_true, if_neg hl]
  rfl
theorem VaP.grpF_len : ∀ (k : Nat) (d r : List UInt8), (VaP.grpF k d r).1.length + (VaP.grpF k d r).2.length ≤ d.length + r.length
 | 0, d, r => Nat.le_refl _
 | k + 1, d, r => by
   unfold VaP.grpF
   split
   ·have h1 := VaP.grpF_len k (d ++ ExP.runD r.tail) (ExP.runR r.tail)
    have h2 := ExP.run_len r.tail
    have h3 : r.tail.length ≤ r.length := by simp
    rw [List.length_append] at h1
    omega
   ·exact Nat.le_refl _
theorem VaP.grp_len (s : List UInt8) : (VaP.grp s).1.length + (VaP.grp s).2.length ≤ s.length := by
 have h2 := ExP.run_len s
 unfold VaP.grp
 split
 ·exact Nat.le_of_eq h2
 ·have h1 := VaP.grpF_len (ExP.runR s).length (ExP.runD s) (ExP.runR s)
  unfold VaP.grpR
  omega
theorem grouped_any (s : List UInt8) (w : World) (hs : s.length ≤ 1000000) : QC 109 #[.string (bstr s)] w (.tuple #[.string (bstr (VaP.grp s).1), .string (bstr (VaP.grp s).2)]) := by
 have D := fun (t : List UInt8) (h : t.length ≤ 1000000) (w' : World) => vdigits_any t w' (by omega)
 have H := fun (t : List UInt8) (w' : World) => hasOne_any t 44 w'
 have D0 := D s hs
 have hG : VaP.grp s = if (ExP.runD s).length < 1 ∨ 3 < (ExP.runD s).length then (ExP.runD s, ExP.runR s) else VaP.grpR (ExP.runD s) (ExP.runR s) := rfl
 have hl := ExP.run_len s
 generalize VaP.grp s = G at *
 generalize ExP.runD s = d0 at *
 generalize ExP.runR s = r0 at *
 refine yE Tryz.func109 rfl Tryz.results109 Tryz.ntmps109 [] [] [.str s] w ?_
 repeat' (first | refine yX ?_ | (apply And.intro <;> intro _) | apply bothI | refine retB fun β => ?_ | intro βe | refine yK (.tup [.str d0, .str r0]) (fun β w hm => D0 w) ?_ | exact trivial)
 all_goals first | (rw [hG, if_pos (by omega)]; rfl) | skip
 rw [if_neg (by omega)] at hG
 refine yZ (T := {t : List UInt8 × List UInt8 // t.1.length + t.2.length ≤ 1000000 ∧ VaP.grpR t.1 t.2 = G}) (fun t => ⟨[(4, .str t.1.1), (5, .str t.1.2)], [], 0, 40⟩) (fun t => t.1.2.length) ⟨(d0, r0), by dsimp only; omega, hG.symm⟩ [] [] (fun t I hI => ?_)
 obtain ⟨⟨d, r⟩, hdr, hg⟩ := t
 dsimp only
 have hdr : d.length + r.length ≤ 1000000 := hdr
 have hg : VaP.grpR d r = G := hg
 have hst := VaP.grpR_step d r
 rw [hg] at hst
 have H0 := H r
 cases r with
 | nil =>
   rw [if_neg (fun h => by cases h.1)] at hst
   have H0 : ∀ w' : World, QC 162 #[.string (bstr []), .string (bstr [44])] w' (.bool false) := H0
   subst hst
   repeat' (first | refine yX ?_ | (apply And.intro <;> intro _) | apply bothI | refine retB fun β => ?_ | intro βe | refine yK (.lit false) (fun β w hm => H0 w) ?_ | exact trivial)
   all_goals rfl
 | cons x q =>
   have hq := ExP.run_len q
   have D1 := D q (by simp at hdr; omega)
   have hlc : (x :: q).length = q.length + 1 := rfl
   have htl : (x :: q).tail = q := rfl
   rw [htl] at hst
   by_cases hx : x = 44
   ·subst hx
    have H0 : ∀ w' : World, QC 162 #[.string (bstr (44 :: q)), .string (bstr [44])] w' (.bool true) := H0
    generalize ExP.runD q = d1 at *
    generalize ExP.runR q = r1 at *
    repeat' (first | refine yX ?_ | (apply And.intro <;> intro _) | apply bothI | refine retB fun β => ?_ | intro βe | refine yK (.lit true) (fun β w hm => H0 w) ?_ | refine yK (.tup [.str d1, .str r1]) (fun β w hm => D1 w) ?_ | ((with_reducible show ∃ _, _); first | (refine ⟨1, rfl, by omega, ?_⟩)) | exact trivial)
    all_goals first | (rw [if_neg (fun h => by omega)] at hst; subst hst; rfl) | (refine hI _ ⟨(d ++ d1, r1), by simp only [List.length_append]; omega, by rw [hst, if_pos ⟨rfl, by omega⟩]⟩ (by dsimp only; omega) yW; done) | trace_state
   ·have H0 : ∀ w' : World, QC 162 #[.string (bstr (x :: q)), .string (bstr [44])] w' (.bool false) := by
     have e : ((x :: q).head? == some 44) = false := by rw [beq_eq_false_iff_ne]; intro e; exact hx (by simpa using e)
     rw [e] at H0; exact H0
    rw [if_neg (fun h => hx (by simpa using h.1))] at hst
    subst hst
    repeat' (first | refine yX ?_ | (apply And.intro <;> intro _) | apply bothI | refine retB fun β => ?_ | intro βe | refine yK (.lit false) (fun β w hm => H0 w) ?_ | exact trivial)
    all_goals rfl
theorem trimPlus_any (c : UInt8) (w : World) : QC 108 #[.string (bstr [c]), .string (bstr [43])] w (.string (bstr (if c = 43 then [] else [c]))) := by
 refine (Tryz.strings_TrimPrefix (bstr [c]) (bstr [43]) w).mono ?_
 rintro e w' ⟨h, rfl⟩
 refine ⟨?_, Below.refl _ _⟩
 rw [h, show (bstr [c]).data.toList = [c] from rfl, show (bstr [43]).data.toList = [43] from rfl]
 unfold Lib.trimPrefix Lib.hasPrefix
 by_cases hc : c = 43
 ·subst hc; rfl
 ·have : ([43].isPrefixOf [c]) = false := by simp [List.isPrefixOf]; exact fun e => hc e.symm
  rw [this, if_neg Bool.false_ne_true, if_neg hc]; rfl
section
variable (c : UInt8) (q sg s1 d r r2 : List UInt8) (pc ok : Bool) (PF1 PF2 QF1 QF2 H1 H2 F1 F2 : List UInt8) (PE QE : Int) (w : World)
 (hl : (c :: q).length ≤ 40000) (hdr : d.length + r2.length ≤ 40000)
 (G : ∀ w', BW w w' → QC 109 #[.string (bstr s1)] w' (.tuple #[.string (bstr d), .string (bstr r)]))
 (U : ∀ w', BW w w' → QC 110 #[.string (bstr r), .string (bstr [37])] w' (.tuple #[.string (bstr r2), .bool pc]))
 (P : ∀ w', BW w w' → Calls Tryz.prog 111 #[.string (bstr (sg ++ d ++ r2))] w' (WrOut (PF1, PF2) PE w'))
 (O : ∀ w', BW w w' → QC 77 #[.int .i64 100] w' (frV (H1, H2)))
 (V : ∀ w', BW w w' → Calls Tryz.prog 112 #[frV (PF1, PF2), frV (H1, H2)] w' (WrOut (QF1, QF2) QE w'))
 (h1 : d = [] → F1 = [] ∧ F2 = [] ∧ ok = false) (h2 : d ≠ [] → ¬ (PE = 0 ∧ pc = true) → F1 = PF1 ∧ F2 = PF2 ∧ ok = decide (PE = 0)) (h3 : d ≠ [] → PE = 0 → pc = true → F1 = QF1 ∧ F2 = QF2 ∧ ok = decide (QE = 0))
include hl hdr G U P O V h1 h2 h3
theorem number_plus (hc : c = 43) (hs : sg = [] ∧ s1 = q) : QC 56 #[.string (bstr (c :: q))] w (.tuple #[frV (F1, F2), .bool ok]) := by
 obtain ⟨rfl, rfl⟩ := hs
 subst hc
 have hg0 : ((43 :: s1).getD 0 0).toNat = 43 := rfl
 have T := fun (w' : World) => trimPlus_any 43 w'
 rw [if_pos rfl] at T
 refine yE Tryz.func56 rfl Tryz.results56 Tryz.ntmps56 [] [200003, 200010] [.str (43 :: s1)] w ?_
 repeat' (first | refine yX ?_ | (apply And.intro <;> intro _) | apply bothI | refine retB fun β => ?_ | intro βe | refine yK (.str []) (fun β w hm => T w) ?_ | refine yK (.tup [.str d, .str r]) (fun β w hm => G w hm.below) ?_ | refine yK (.tup [.str r2, .bool pc]) (fun β w hm => U w hm.below) ?_ | refine yK (.tup [.agg [.str PF1, .str PF2], .int .i64 PE]) (fun β w hm => P w hm.below) ?_ | refine yK (.agg [.str H1, .str H2]) (fun β w hm => O w hm.below) ?_ | refine yK (.tup [.agg [.str QF1, .str QF2], .int .i64 QE]) (fun β w hm => V w hm.below) ?_ | ((with_reducible show ∃ _, _); first | (refine ⟨0, rfl, by simp, ?_⟩) | (refine ⟨1, rfl, by simp, ?_⟩)) | exact trivial)
 all_goals first | (exfalso; omega) | (obtain ⟨rfl, rfl, rfl⟩ := h1 (by assumption); rfl) | (obtain ⟨rfl, rfl, e⟩ := h3 (by assumption) (by assumption) (by assumption); rw [e]; rfl) | (obtain ⟨rfl, rfl, e⟩ := h2 (by assumption) (fun h => by have := h.1; have := h.2; simp_all); rw [e]; rfl) | trace_state
theorem number_minus (hc : c = 45) (hs : sg = [45] ∧ s1 = q) : QC 56 #[.string (bstr (c :: q))] w (.tuple #[frV (F1, F2), .bool ok]) := by
 obtain ⟨rfl, rfl⟩ := hs
 subst hc
 have hg0 : ((45 :: s1).getD 0 0).toNat = 45 := rfl
 have T := fun (w' : World) => trimPlus_any 45 w'
 rw [if_neg (by decide)] at T
 refine yE Tryz.func56 rfl Tryz.results56 Tryz.ntmps56 [] [200003, 200010] [.str (45 :: s1)] w ?_
 repeat' (first | refine yX ?_ | (apply And.intro <;> intro _) | apply bothI | refine retB fun β => ?_ | intro βe | refine yK (.str [45]) (fun β w hm => T w) ?_ | refine yK (.tup [.str d, .str r]) (fun β w hm => G w hm.below) ?_ | refine yK (.tup [.str r2, .bool pc]) (fun β w hm => U w hm.below) ?_ | refine yK (.tup [.agg [.str PF1, .str PF2], .int .i64 PE]) (fun β w hm => P w hm.below) ?_ | refine yK (.agg [.str H1, .str H2]) (fun β w hm => O w hm.below) ?_ | refine yK (.tup [.agg [.str QF1, .str QF2], .int .i64 QE]) (fun β w hm => V w hm.below) ?_ | ((with_reducible show ∃ _, _); first | (refine ⟨0, rfl, by simp, ?_⟩) | (refine ⟨1, rfl, by simp, ?_⟩)) | exact trivial)
 all_goals first | (exfalso; omega) | (obtain ⟨rfl, rfl, rfl⟩ := h1 (by assumption); rfl) | (obtain ⟨rfl, rfl, e⟩ := h3 (by assumption) (by assumption) (by assumption); rw [e]; rfl) | (obtain ⟨rfl, rfl, e⟩ := h2 (by assumption) (fun h => by have := h.1; have := h.2; simp_all); rw [e]; rfl) | trace_state
theorem number_none (hc : c ≠ 43 ∧ c ≠ 45) (hs : sg = [] ∧ s1 = c :: q) : QC 56 #[.string (bstr (c :: q))] w (.tuple #[frV (F1, F2), .bool ok]) := by
 have _hl := hl
 obtain ⟨rfl, rfl⟩ := hs
 have hg0 : ((c :: q).getD 0 0).toNat ≠ 43 ∧ ((c :: q).getD 0 0).toNat ≠ 45 := ⟨fun e => hc.1 (UInt8.toNat_inj.1 e), fun e => hc.2 (UInt8.toNat_inj.1 e)⟩
 refine yE Tryz.func56 rfl Tryz.results56 Tryz.ntmps56 [] [200003, 200010] [.str (c :: q)] w ?_
 repeat' (first | refine yX ?_ | (apply And.intro <;> intro _) | apply bothI | refine retB fun β => ?_ | intro βe | refine yK (.tup [.str d, .str r]) (fun β w hm => G w hm.below) ?_ | refine yK (.tup [.str r2, .bool pc]) (fun β w hm => U w hm.below) ?_ | refine yK (.tup [.agg [.str PF1, .str PF2], .int .i64 PE]) (fun β w hm => P w hm.below) ?_ | refine yK (.agg [.str H1, .str H2]) (fun β w hm => O w hm.below) ?_ | refine yK (.tup [.agg [.str QF1, .str QF2], .int .i64 QE]) (fun β w hm => V w hm.below) ?_ | ((with_reducible show ∃ _, _); first | (refine ⟨0, rfl, by simp, ?_⟩) | (refine ⟨1, rfl, by simp, ?_⟩)) | exact trivial)
 all_goals first | (exfalso; omega) | (obtain ⟨rfl, rfl, rfl⟩ := h1 (by assumption); rfl) | (obtain ⟨rfl, rfl, e⟩ := h3 (by assumption) (by assumption) (by assumption); rw [e]; rfl) | (obtain ⟨rfl, rfl, e⟩ := h2 (by assumption) (fun h => by have := h.1; have := h.2; simp_all); rw [e]; rfl) | trace_state
end
end Go.Proofs.YtdkhkfdenlabaaaGreatDoor
namespace Go.Proofs.YtdkhkfdenlabaaaGreatDoor
open Go.RowKit
open Sym
theorem XV.pos {w : World} (h : XV w) : 0 < w.heap.size := by
 obtain ⟨m, hm⟩ := h.len
 exact Nat.lt_of_le_of_lt (Nat.zero_le _) (World.block_lt_of_cell? _ _ hm)
namespace ExP
theorem writeF_len (x : Num) : (writeF x).1.length ≤ 301 ∧ (writeF x).2.length ≤ 300 := by
 unfold writeF
 split
 ·exact ⟨by simp, by simp⟩
 ·split
  ·exact ⟨by simp, by simp⟩
  ·rename_i h
   unfold overP at h
   have : (signP x.m (Lib.decDigits (redN x))).length ≤ (Lib.decDigits (redN x)).length + 1 := by unfold signP; split <;> simp
   exact ⟨by dsimp only; omega, by dsimp only; omega⟩
theorem scale_pos {x : Num} {k : Int} (h : 0 < x.d) : 0 < (scaleN x k).d := by
 unfold scaleN
 split
 ·exact Nat.mul_pos h (Nat.pow_pos (by omega))
 ·exact h
theorem decN_pos (s : Str) : 0 < (decN s).d := scale_pos Nat.one_pos
theorem dig_len {n : Nat} (h : nd 10 n ≤ 300) : (Lib.decDigits n).length ≤ 300 := by
 rcases Nat.eq_zero_or_pos n with rfl | h0
 ·rw [Lib.decDigits_one (by omega)]; simp
 ·rw [nd_dec h0]; exact h
theorem read_whole {n : Nat} (h : nd 10 n ≤ 300) : readE (Lib.decDigits n, [49]) = 0 ∧ readN (Lib.decDigits n, [49]) = ⟨false, n, 1⟩ := by
 have e1 : Lib.decDigits 1 = [49] := by rw [Lib.decDigits_one (by omega)]; rfl
 rw [← e1]
 exact read_write (by omega) (dig_len h) (dig_len (by rw [nd_one (by omega)]; omega)) (Nat.gcd_one_right n)
theorem div_eq {x y : Num} {n : Nat} (h : EqN x y) (hn : 0 < n) : EqN (divN x ⟨false, n, 1⟩) ⟨y.m, y.n, y.d * n⟩ := by
 have e : divN x ⟨false, n, 1⟩ = ⟨x.m != false, x.n * 1, x.d * n⟩ := by unfold divN; rw [if_neg (by dsimp only; omega)]; rfl
 rw [e]
 refine ⟨Nat.mul_pos h.dx hn, Nat.mul_pos h.dy hn, ?_, ?_⟩
 ·dsimp only
  rw [Nat.mul_one, ← Nat.mul_assoc, h.cross, Nat.mul_assoc]
 ·intro h0
  have := h.sign (by simpa using h0)
  dsimp only
  rw [this]; simp
end ExP
section
attribute [local irreducible] Calls Sym.AggEq ExP.nd ExP.dig ExP.upd ExP.writeF ExP.writeE
open VaP ExP
theorem number_any (s : List UInt8) (w : World) (hw : XV w) (hs : s ≠ []) (hl : s.length ≤ 40000) :
  ∃ F : ExP.Fr, (∀ x, VaP.numV s = some x → F = ExP.writeF x) ∧ ∀ w', BW w w' → QC 56 #[.string (bstr s)] w' (.tuple #[frV F, .bool (VaP.numV s).isSome]) := by
 obtain ⟨e1, e2⟩ := VaP.grp_cut (VaP.sgn s).2
 have hsl : (VaP.sgn s).2.length ≤ 40000 := by
  unfold VaP.sgn
  split
  ·simp; omega
  ·split
   ·simp; omega
   ·exact hl
 have hgl := VaP.grp_len (VaP.cutP (VaP.sgn s).2).1
 have hcl : (VaP.cutP (VaP.sgn s).2).1.length ≤ (VaP.sgn s).2.length := by
  unfold VaP.cutP
  split
  ·simp
  ·exact Nat.le_refl _
 have hsg := VaP.sgn_two s
 have hgl0 := VaP.grp_len (VaP.sgn s).2
 have hN : VaP.numV s = if (VaP.grp (VaP.cutP (VaP.sgn s).2).1).1 = [] then none else VaP.numG ((VaP.sgn s).1 ++ (VaP.grp (VaP.cutP (VaP.sgn s).2).1).1 ++ (VaP.grp (VaP.cutP (VaP.sgn s).2).1).2) (VaP.cutP (VaP.sgn s).2).2 := by
  rw [List.append_assoc]; rfl
 have G0 := fun (w' : World) => grouped_any (VaP.sgn s).2 w' (by omega)
 have U0 := fun (w' : World) => cutPct_any (VaP.grp (VaP.sgn s).2).2 w' (by omega)
 rw [e1] at G0
 simp only [e2] at U0
 generalize (VaP.cutP (VaP.sgn s).2).2 = pc at *
 generalize (VaP.grp (VaP.sgn s).2).2 = r at *
 generalize hx : (VaP.cutP (VaP.sgn s).2).1 = x at *
 generalize (VaP.grp x).1 = d at *
 generalize (VaP.grp x).2 = r2 at *
 obtain ⟨t, ht⟩ : ∃ t, t = (VaP.sgn s).1 ++ d ++ r2 := ⟨_, rfl⟩
 have htl : t.length ≤ 100000 := by
  rw [ht]
  simp only [List.length_append]
  have : (VaP.sgn s).1.length ≤ 1 := by rcases hsg with h | h <;> rw [h] <;> simp
  omega
 have P0 := fun (w' : World) (h : BW w w') => parse_law t w' (hw.below h).xw (hw.below h).pos (by omega)
 have O0 := fun (w' : World) (h : BW w w') => of_any 100 w' (hw.below h).xw (by omega) (by omega)
 have hi : Lib.itoa 100 = Lib.decDigits 100 := rfl
 rw [hi] at O0
 have h100 : ExP.nd 10 100 ≤ 300 := Nat.le_trans (ExP.nd_le (n := 3) (by omega) (by decide)) (by omega)
 obtain ⟨k1, k2⟩ := ExP.read_whole h100
 obtain ⟨PF, hPF⟩ : ∃ F : ExP.Fr, F = if ExP.parE t = 0 then ExP.writeF (ExP.decN t) else ([], []) := ⟨_, rfl⟩
 obtain ⟨PE, hPE⟩ : ∃ E : Int, E = if ExP.parE t = 0 then ExP.writeE (ExP.decN t) else ExP.parE t := ⟨_, rfl⟩
 have hPl : PF.1.length ≤ 301 ∧ PF.2.length ≤ 300 := by
  rw [hPF]
  split
  ·exact ExP.writeF_len _
  ·exact ⟨by simp, by simp⟩
 have V0 := fun (w' : World) (h : BW w w') => div_any PF (Lib.decDigits 100, [49]) w' (hw.below h).xw (hw.below h).pos (by omega) (by omega) (by dsimp only; have := ExP.dig_len h100; omega) (by simp)
 rw [← hPF, ← hPE] at P0
 have hgood : PE = 0 ↔ ExP.parE t = 0 ∧ ExP.writeE (ExP.decN t) = 0 := by
  rw [hPE]
  split
  ·rename_i h; simp [h]
  ·rename_i h; simp [h]
 have hQ : PE = 0 → ExP.twoF PF (Lib.decDigits 100, [49]) (ExP.divN (ExP.readN PF) (ExP.readN (Lib.decDigits 100, [49]))) (ExP.divE (ExP.readN (Lib.decDigits 100, [49]))) = ExP.writeF (ExP.scaleN (ExP.decN t) (-2)) ∧ ExP.twoE PF (Lib.decDigits 100, [49]) (ExP.divN (ExP.readN PF) (ExP.readN (Lib.decDigits 100, [49]))) (ExP.divE (ExP.readN (Lib.decDigits 100, [49]))) = ExP.writeE (ExP.scaleN (ExP.decN t) (-2)) := fun h => by
  obtain ⟨g1, g2⟩ := hgood.1 h
  have hF : PF = ExP.writeF (ExP.decN t) := by rw [hPF, if_pos g1]
  obtain ⟨r1, r3, -⟩ := ExP.write_read (ExP.decN_pos t) g2
  rw [← hF] at r1 r3
  have hb : ExP.bothE PF (Lib.decDigits 100, [49]) = 0 := by unfold ExP.bothE; rw [if_pos r1]; exact k1
  have hd := ExP.div_eq r3 (n := 100) (by omega)
  have hz : ExP.divE (⟨false, 100, 1⟩ : ExP.Num) = 0 := rfl
  have hsc : ExP.scaleN (ExP.decN t) (-2) = ⟨(ExP.decN t).m, (ExP.decN t).n, (ExP.decN t).d * 100⟩ := rfl
  rw [k2, hz]
  unfold ExP.twoF ExP.twoE
  rw [if_pos hb, if_pos rfl, if_pos hb, if_pos rfl, hsc]
  exact ExP.write_same hd
 generalize ExP.twoF PF (Lib.decDigits 100, [49]) (ExP.divN (ExP.readN PF) (ExP.readN (Lib.decDigits 100, [49]))) (ExP.divE (ExP.readN (Lib.decDigits 100, [49]))) = QF at *
 generalize ExP.twoE PF (Lib.decDigits 100, [49]) (ExP.divN (ExP.readN PF) (ExP.readN (Lib.decDigits 100, [49]))) (ExP.divE (ExP.readN (Lib.decDigits 100, [49]))) = QE at *
 rw [← ht] at hN
 have hGn : VaP.numG t pc = if PE = 0 then (if pc = true then (if QE = 0 then some (ExP.scaleN (ExP.decN t) (-2)) else none) else some (ExP.decN t)) else none := by
  unfold VaP.numG
  by_cases h : PE = 0
  ·obtain ⟨g1, g2⟩ := hgood.1 h
   rw [if_neg (by rw [g1, g2]; simp), if_pos h, (hQ h).2]
  ·rw [if_neg h, if_pos]
   rcases Decidable.em (ExP.parE t = 0) with g | g
   ·exact .inr fun g2 => h (hgood.2 ⟨g, g2⟩)
   ·exact .inl g
 rw [hGn] at hN
 refine ⟨if d = [] then ([], []) else if PE = 0 ∧ pc = true then QF else PF, ?_, fun w' hb => ?_⟩
 ·intro x hx
  rw [hN] at hx
  by_cases h0 : d = []
  ·rw [if_pos h0] at hx; cases hx
  ·rw [if_neg h0] at hx ⊢
   by_cases h1 : PE = 0
   ·rw [if_pos h1] at hx
    by_cases h2 : pc = true
    ·rw [if_pos h2] at hx
     rw [if_pos ⟨h1, h2⟩]
     split at hx
     ·cases hx; exact (hQ h1).1
     ·cases hx
    ·rw [if_neg h2] at hx
     rw [if_neg (fun h => h2 h.2)]
     cases hx
     rw [hPF, if_pos (hgood.1 h1).1]
   ·rw [if_neg h1] at hx; cases hx
 ·obtain ⟨F, hF⟩ : ∃ F : ExP.Fr, F = if d = [] then ([], []) else if PE = 0 ∧ pc = true then QF else PF := ⟨_, rfl⟩
  obtain ⟨ok, hok⟩ : ∃ ok, ok = (VaP.numV s).isSome := ⟨_, rfl⟩
  rw [← hF, ← hok]
  rw [hN] at hok
  have h1 : d = [] → F = ([], []) ∧ ok = false := fun h => by rw [hF, hok, if_pos h, if_pos h]; exact ⟨rfl, rfl⟩
  have h2 : d ≠ [] → ¬ (PE = 0 ∧ pc = true) → F = PF ∧ ok = decide (PE = 0) := fun h h' => by
   rw [hF, hok, if_neg h, if_neg h, if_neg h']
   refine ⟨rfl, ?_⟩
   by_cases hp : PE = 0
   ·rw [if_pos hp, if_neg (fun h => h' ⟨hp, h⟩), decide_eq_true hp]; rfl
   ·rw [if_neg hp, decide_eq_false hp]; rfl
  have h3 : d ≠ [] → PE = 0 → pc = true → F = QF ∧ ok = decide (QE = 0) := fun h h' h'' => by
   rw [hF, hok, if_neg h, if_neg h, if_pos ⟨h', h''⟩, if_pos h', if_pos h'']
   refine ⟨rfl, ?_⟩
   by_cases hp : QE = 0
   ·rw [if_pos hp, decide_eq_true hp]; rfl
   ·rw [if_neg hp, decide_eq_false hp]; rfl
  clear hN hGn hQ hgood hPE hPF hF hok
  obtain ⟨F1, F2⟩ := F
  obtain ⟨PF1, PF2⟩ := PF
  obtain ⟨QF1, QF2⟩ := QF
  simp only [Prod.mk.injEq, and_assoc] at h1 h2 h3
  rw [ht] at P0
  cases s with
  | nil => exact absurd rfl hs
  | cons c q =>
    have G := fun (w'' : World) (_ : BW w' w'') => G0 w''
    have U := fun (w'' : World) (_ : BW w' w'') => U0 w''
    have P := fun (w'' : World) (h : BW w' w'') => P0 w'' (hb.trans (h.mono hb.size))
    have O := fun (w'' : World) (h : BW w' w'') => O0 w'' (hb.trans (h.mono hb.size))
    have V := fun (w'' : World) (h : BW w' w'') => V0 w'' (hb.trans (h.mono hb.size))
    have hdr : d.length + r2.length ≤ 40000 := by omega
    by_cases c1 : c = 43
    ·exact number_plus c q _ _ d r r2 pc ok PF1 PF2 QF1 QF2 _ _ F1 F2 PE QE w' hl hdr G U P O V h1 h2 h3 c1 (by subst c1; exact ⟨rfl, rfl⟩)
    ·by_cases c2 : c = 45
     ·exact number_minus c q _ _ d r r2 pc ok PF1 PF2 QF1 QF2 _ _ F1 F2 PE QE w' hl hdr G U P O V h1 h2 h3 c2 (by subst c2; exact ⟨rfl, rfl⟩)
     ·have e : VaP.sgn (c :: q) = ([], c :: q) := by
       unfold VaP.sgn
       rw [if_neg (by simpa using c1), if_neg (by simpa using c2)]
      exact number_none c q _ _ d r r2 pc ok PF1 PF2 QF1 QF2 _ _ F1 F2 PE QE w' hl hdr G U P O V h1 h2 h3 ⟨c1, c2⟩ (by rw [e]; exact ⟨rfl, rfl⟩)
end
end Go.Proofs.YtdkhkfdenlabaaaGreatDoor
namespace Go.Proofs.YtdkhkfdenlabaaaGreatDoor
open Go.RowKit
namespace ExP
theorem digits_par {s : Str} (h0 : s ≠ []) (ha : s.all digC = true) (hl : s.length ≤ 1000) : parE s = 0 ∧ decN s = ⟨false, valS s, 1⟩ := by
 have hc : cutM s = (s, false) := by
  unfold cutM
  rw [if_neg]
  intro h
  cases s with
  | nil => exact h0 rfl
  | cons c r =>
    simp only [List.all_cons, Bool.and_eq_true] at ha
    have : c = 45 := by simpa using h
    subst this
    simp [digC] at ha
 obtain ⟨h1, h2⟩ := run_all ha
 constructor
 ·unfold parE
  rw [if_neg (by omega), if_neg]
  unfold decW decT
  rw [hc]
  simp only [h1, h2]
  rintro (h | h | h)
  ·cases h
  ·exact h0 h
  ·cases h
 ·unfold decN decW decP decT
  rw [hc]
  simp only [h1, h2]
  simp [parD, parR, expV, scaleN]
theorem writeE_small {x : Num} (h1 : nd 10 x.n ≤ 300) (h2 : nd 10 x.d ≤ 300) (hd : 0 < x.d) : writeE x = 0 := by
 have := (write_ok (x := ⟨false, x.n, x.d⟩) rfl hd h1 h2).1
 exact this
theorem nd_text {s : Str} {k : Nat} (ha : s.all digC = true) (hl : s.length ≤ k) : nd 10 (valS s) ≤ k :=
 nd_le (by omega) (Nat.lt_of_lt_of_le (val_lt s ha) (Nat.pow_le_pow_right (by omega) hl))
theorem write_whole {n : Nat} (h : nd 10 n ≤ 300) : writeF ⟨false, n, 1⟩ = (Lib.decDigits n, [49]) := by
 obtain ⟨k1, k2⟩ := read_whole h
 rcases Nat.eq_zero_or_pos n with rfl | h0
 ·unfold writeF
  rw [if_pos rfl, Lib.decDigits_one (by omega)]; rfl
 ·unfold writeF
  have hn : ¬ (⟨false, n, 1⟩ : Num).n = 0 := by show ¬ n = 0; omega
  have he := writeE_small (x := ⟨false, n, 1⟩) h (by show nd 10 1 ≤ 300; rw [nd_one (by omega)]; omega) Nat.one_pos
  have ho : ¬ overP ⟨false, n, 1⟩ := fun h => by
   unfold writeE at he
   rw [if_neg hn, if_pos h] at he; cases he
  rw [if_neg hn, if_neg ho]
  have e1 : redN ⟨false, n, 1⟩ = n := by unfold redN; simp
  have e2 : redD ⟨false, n, 1⟩ = 1 := by unfold redD; simp
  have e3 : Lib.decDigits 1 = [49] := by rw [Lib.decDigits_one (by omega)]; rfl
  rw [e1, e2, e3]; rfl
theorem read_pos {x : Num} (hm : x.m = false) (hd : 0 < x.d) (hE : writeE x = 0) : readE (writeF x) = 0 ∧ (readN (writeF x)).m = false ∧ EqN (readN (writeF x)) x := by
 obtain ⟨h1, h2, h3⟩ := write_read hd hE
 refine ⟨h1, ?_, h2⟩
 cases h : (readN (writeF x)).m with
 | false => rfl
 | true => have := h2.sign (h3 h); rw [h, hm] at this; cases this
theorem add_w {x y : Num} (hx : x.m = false) (hy : y.m = false) (dx : 0 < x.d) (dy : 0 < y.d) (ex : writeE x = 0) (ey : writeE y = 0) :
  twoF (writeF x) (writeF y) (sumN (readN (writeF x)) (readN (writeF y))) 0 = writeF ⟨false, x.n * y.d + y.n * x.d, x.d * y.d⟩ ∧ twoE (writeF x) (writeF y) (sumN (readN (writeF x)) (readN (writeF y))) 0 = writeE ⟨false, x.n * y.d + y.n * x.d, x.d * y.d⟩ := by
 obtain ⟨a1, a2, a3⟩ := read_pos hx dx ex
 obtain ⟨b1, b2, b3⟩ := read_pos hy dy ey
 have hb : bothE (writeF x) (writeF y) = 0 := by unfold bothE; rw [if_pos a1]; exact b1
 unfold twoF twoE
 rw [if_pos hb, if_pos rfl, if_pos hb, if_pos rfl]
 generalize readN (writeF x) = u at *
 generalize readN (writeF y) = v at *
 refine write_same ⟨?_, Nat.mul_pos dx dy, ?_, ?_⟩
 ·unfold sumN; rw [if_pos (by rw [a2, b2])]; exact Nat.mul_pos a3.dx b3.dx
 ·unfold sumN; rw [if_pos (by rw [a2, b2])]
  dsimp only
  have c1 := a3.cross
  have c2 := b3.cross
  rw [Nat.add_mul, Nat.add_mul]
  have e1 : u.n * v.d * (x.d * y.d) = x.n * y.d * (u.d * v.d) := by
   rw [Nat.mul_mul_mul_comm, c1, Nat.mul_comm v.d, Nat.mul_mul_mul_comm]
  have e2 : v.n * u.d * (x.d * y.d) = y.n * x.d * (u.d * v.d) := by
   rw [Nat.mul_comm x.d y.d, Nat.mul_mul_mul_comm, c2, Nat.mul_comm u.d x.d, Nat.mul_mul_mul_comm, Nat.mul_comm v.d u.d]
  rw [e1, e2]
 ·intro _
  unfold sumN; rw [if_pos (by rw [a2, b2])]; exact a2
theorem div_w {x y : Num} (hx : x.m = false) (hy : y.m = false) (dx : 0 < x.d) (dy : 0 < y.d) (ex : writeE x = 0) (ey : writeE y = 0) (h0 : y.n ≠ 0) :
  twoF (writeF x) (writeF y) (divN (readN (writeF x)) (readN (writeF y))) (divE (readN (writeF y))) = writeF ⟨false, x.n * y.d, x.d * y.n⟩ ∧ twoE (writeF x) (writeF y) (divN (readN (writeF x)) (readN (writeF y))) (divE (readN (writeF y))) = writeE ⟨false, x.n * y.d, x.d * y.n⟩ := by
 obtain ⟨a1, a2, a3⟩ := read_pos hx dx ex
 obtain ⟨b1, b2, b3⟩ := read_pos hy dy ey
 have hb : bothE (writeF x) (writeF y) = 0 := by unfold bothE; rw [if_pos a1]; exact b1
 generalize hu : readN (writeF x) = u at *
 generalize hv : readN (writeF y) = v at *
 have hv0 : v.n ≠ 0 := fun e => h0 (b3.zero.1 e)
 have hz : divE v = 0 := if_neg hv0
 have hdv : divN u v = ⟨false, u.n * v.d, u.d * v.n⟩ := by
  unfold divN; rw [if_neg hv0]; unfold mulN invN; rw [a2, b2]; rfl
 unfold twoF twoE
 rw [hz, if_pos hb, if_pos rfl, if_pos hb, if_pos rfl, hdv]
 refine write_same ⟨Nat.mul_pos a3.dx (Nat.pos_of_ne_zero hv0), Nat.mul_pos dx (Nat.pos_of_ne_zero h0), ?_, fun _ => rfl⟩
 dsimp only
 have c1 := a3.cross
 have c2 := b3.cross
 rw [Nat.mul_mul_mul_comm, c1, Nat.mul_comm v.d, ← c2, Nat.mul_comm v.n, Nat.mul_mul_mul_comm]
theorem div_z {x y : Num} (hx : x.m = false) (hy : y.m = false) (dx : 0 < x.d) (dy : 0 < y.d) (ex : writeE x = 0) (ey : writeE y = 0) (h0 : y.n = 0) :
  twoE (writeF x) (writeF y) (divN (readN (writeF x)) (readN (writeF y))) (divE (readN (writeF y))) = 1 := by
 obtain ⟨a1, a2, a3⟩ := read_pos hx dx ex
 obtain ⟨b1, b2, b3⟩ := read_pos hy dy ey
 have hb : bothE (writeF x) (writeF y) = 0 := by unfold bothE; rw [if_pos a1]; exact b1
 have hz : divE (readN (writeF y)) = 1 := if_pos (b3.zero.2 h0)
 unfold twoE
 rw [hz, if_pos hb, if_neg (by omega)]
theorem neg_w {x : Num} (hx : x.m = false) (dx : 0 < x.d) (ex : writeE x = 0) : oneF (writeF x) (negN (readN (writeF x))) = writeF ⟨true, x.n, x.d⟩ := by
 obtain ⟨a1, a2, a3⟩ := read_pos hx dx ex
 unfold oneF
 rw [if_pos a1]
 have h : EqN (negN (readN (writeF x))) ⟨true, x.n, x.d⟩ := ⟨a3.dx, dx, a3.cross, fun _ => by unfold negN; rw [a2]; rfl⟩
 exact (write_same h).1
end ExP
end Go.Proofs.YtdkhkfdenlabaaaGreatDoor
