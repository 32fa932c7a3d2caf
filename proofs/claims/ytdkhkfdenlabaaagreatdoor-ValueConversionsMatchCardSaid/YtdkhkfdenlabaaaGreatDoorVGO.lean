/- Whole numbers as X7: the Ze -/
import Derived.Test.YtdkhkfdenlabaaaGreatDoorVGG
import Derived.Test.YtdkhkfdenlabaaaGreatDoorVGN
import Derived.Test.YtdkhkfdenlabaaaGreatDoorVGM
import Derived.Test.YtdkhkfdenlabaaaGreatDoorVGJ
set_option linter.unusedSimpArgs false
set_option linter.unusedVariables false
set_option maxRecDepth 100000
set_option maxHeartbeats 64000000
namespace Go.Proofs.YtdkhkfdenlabaaaGreatDoor
open Go.Proofs.Tryz
section
open Go.RowKit
open Sym
attribute [local irreducible] Calls Sym.bM ae.nd ae.bu ae.upd
theorem ae.gq {b : Nat} (hb : 2 <= b) : ae.nd b 1 = 1 := by
 have h1 := ae.dX (b := b) (x := 1) (n := 1) hb (by rw [Nat.pow_one]; omega)
 have h2 := (ae.fM (b := b) (x := 1) hb).2 (by omega)
 omega
theorem oO {k : IntKind} {b : Nat} (hb : 2 <= b) : nv k b 1 = [.int k 1] := by
 unfold nv ae.dg
 rw [ae.gq hb, ae.rD (by omega)]
 rfl
def ae.dR (p : Int) : ae.Num := ⟨decide (p < 0), p.natAbs, 1⟩
theorem RG (p : Int) (w : World) (h0 : -9223372036854775808 <= p) (h1 : p <= 9223372036854775807) (hw : XW w) : QC 139 #[.int .i64 p] w (.string (ah (Lib.itoa p))) := by
 refine (Tryz.strconv_Itoa p h0 h1 w hw.tab).mono ?_
 rintro e w' ⟨rfl, k, os, rfl⟩
 exact ⟨rfl, TV w k os⟩
theorem Gu (n : Nat) (h0 : 0 < n) (hn : n <= 9223372036854775808) (w : World) : QC 140 #[.int .i64 (-(n : Int))] w (.string (ah (Lib.decDigits n))) := by
 have HD := fun w => H5 n h0 hn w
 generalize Lib.decDigits n = L at *
 refine yE func140 rfl results140 ntmps140 [] [] [.int .i64 (-(n : Int))] w ?_
 repeat' (first | exact ⟨⟩ | refine yG ?_ ?_ | refine yA (.str (45 :: L)) (fun _ => HD) ?_ | ((with_reducible show ∃ _, _); first | (refine ⟨1, rfl, by simp, ?_⟩)) | intro _)
 all_goals rfl
theorem mO (p : Int) (w : World) (hw0 : 0 < w.heap.size) (h0 : -9223372036854775808 <= p) (h1 : p <= 9223372036854775807) : Calls Tryz.prog 78 #[.int .i64 p] w (fF .i64 10 (ae.dR p) w) := by
 obtain ⟨i0, hi, hz0, hz1, hz2⟩ := info_parts jw
 have hu := underlying70
 have hsz := fun w => sizeOf3 w
 have hzv := fun w => zeroValue3 w
 have hn1 : ae.nd 10 1 = 1 := ae.gq (by omega)
 have hv1 : nv .i64 10 1 = [.int .i64 1] := oO (by omega)
 have hN := fun x w => jf (Lib.decDigits x) w
 simp only [ae.oI] at hN
 by_cases hp : p < 0
 ·obtain ⟨m, rfl⟩ : ∃ m : Nat, p = -(m : Int) := ⟨p.natAbs, by omega⟩
  have hW : ae.dR (-(m : Int)) = ⟨true, m, 1⟩ := by simp [ae.dR]; omega
  rw [hW]
  have HU := fun w => Gu m (by omega) (by omega) w
  have hN := fun w => hN m w (by have := Ff m (by omega); omega) (ae.jA m)
  generalize Lib.decDigits m = L at *
  refine yE func78 rfl results78 ntmps78 [] [] [.int .i64 (-(m : Int))] w ?_
  repeat' (first | exact ⟨⟩ | refine yG ?_ ?_ | refine yA (.str L) (fun _ => HU) ?_ | (refine aH .i64 10 m hw0 (by kernel_rfl) rfl (fun β w' hm => hN w') (fun a1 c1 q1 q2 q3 => ?_)) | (refine aI (sz := 1) rfl rfl rfl (xs := [.int .i64 1]) (fun β => rfl) rfl (by omega) (by omega) hu hsz hzv (fun g1 => ?_)) | intro _)
  all_goals first | (exfalso; omega) | skip
  all_goals refine ret fun β w' hm => ?_
  all_goals refine ⟨⟨true, m, 1, a1, c1, some ⟨g1, 0, none⟩, 1⟩, by simp only [bI.val, hn1]; rfl, rfl, ⟨q1, (by intro h; cases h), q2, by dsimp only; omega⟩, oK (df hm) (nS hm) (by dsimp only; rw [hv1]; first | exact (hm.own 1 rfl).1 | exact (hm.own 2 rfl).1) (by dsimp only; rw [hv1]; first | exact bY (hm.own 1 rfl).2.1 rfl | exact bY (hm.own 2 rfl).2.1 rfl), hm.below⟩
 ·obtain ⟨m, rfl⟩ : ∃ m : Nat, p = (m : Int) := ⟨p.natAbs, by omega⟩
  have hW : ae.dR (m : Int) = ⟨false, m, 1⟩ := by simp [ae.dR]
  rw [hW]
  have HU := fun w => H6 m (by omega) w
  have hN := fun w => hN m w (by have := Ff m (by omega); omega) (ae.jA m)
  generalize Lib.decDigits m = L at *
  refine yE func78 rfl results78 ntmps78 [] [] [.int .i64 (m : Int)] w ?_
  repeat' (first | exact ⟨⟩ | refine yG ?_ ?_ | refine yA (.str L) (fun _ => HU) ?_ | (refine aH .i64 10 m hw0 (by kernel_rfl) rfl (fun β w' hm => hN w') (fun a1 c1 q1 q2 q3 => ?_)) | (refine aI (sz := 1) rfl rfl rfl (xs := [.int .i64 1]) (fun β => rfl) rfl (by omega) (by omega) hu hsz hzv (fun g1 => ?_)) | intro _)
  all_goals first | (exfalso; omega) | skip
  all_goals refine ret fun β w' hm => ?_
  all_goals refine ⟨⟨false, m, 1, a1, c1, some ⟨g1, 0, none⟩, 1⟩, by simp only [bI.val, hn1]; rfl, rfl, ⟨q1, (by intro h; cases h), q2, by dsimp only; omega⟩, oK (df hm) (nS hm) (by dsimp only; rw [hv1]; first | exact (hm.own 1 rfl).1 | exact (hm.own 2 rfl).1) (by dsimp only; rw [hv1]; first | exact bY (hm.own 1 rfl).2.1 rfl | exact bY (hm.own 2 rfl).2.1 rfl), hm.below⟩
theorem xZ (p : Int) (w : World) (hw : XW w) (h0 : -9223372036854775808 <= p) (h1 : p <= 9223372036854775807) : QC 77 #[.int .i64 p] w (iI (Lib.itoa p, [49])) := by
 have HI := fun (w' : World) (h : BW w w') => RG p w' h0 h1 (hw.below h)
 generalize Lib.itoa p = L at *
 refine yE func77 rfl results77 ntmps77 [] [] [.int .i64 p] w ?_
 repeat' (first | exact ⟨⟩ | refine yG ?_ ?_ | refine yB (.str L) (fun _ => HI) ?_ | intro _)
 all_goals rfl
end
section
open Go.RowKit
open Sym
attribute [local irreducible] Calls Sym.bM ae.nd ae.bu ae.upd ae.ak ae.ay
theorem ry (s : List UInt8) (w : World) : QC 54 #[.string (ah s), .string (ah [46])] w (.tuple #[.string (ah (if s.head? = some 46 then s.tail else s)), .bool (s.head? == some 46)]) := by
 refine (Tryz.strings_CutPrefix (ah s) (ah [46]) w).mono ?_
 rintro e w' ⟨h, rfl⟩
 refine ⟨?_, Below.refl _ _⟩
 rw [h, show (ah s).data.toList = s from rfl, show (ah [46]).data.toList = [46] from rfl]
 have key : Lib.trimPrefix s [46] = (if s.head? = some 46 then s.tail else s) /\ Lib.hasPrefix s [46] = (s.head? == some 46) := by
  cases s with
  | nil => exact ⟨rfl, rfl⟩
  | cons c r =>
    by_cases h : c = 46
    ·subst h; simp [Lib.trimPrefix, Lib.hasPrefix]
    ·have h' : ¬ 46 = c := fun e => h e.symm
     simp [Lib.trimPrefix, Lib.hasPrefix, h, List.isPrefixOf, beq_eq_false_iff_ne.2 h']
 rw [key.1, key.2]; rfl
theorem ae.BK {b : Nat} (hb : 10 <= b) (k : Nat) : ae.nd b (10 ^ k) <= k + 1 :=
 ae.dX (by omega) (zl (Nat.pow_lt_pow_right (by omega) (Nat.lt_succ_self k)) (Nat.pow_le_pow_left hb _))
theorem ae.Fz (s : List UInt8) (h : ae.lU s = true) : -1000 < ae.lK s /\ ae.lK s < 1000 := by
 cases s with
 | nil => exact ⟨by decide, by decide⟩
 | cons c t =>
   have hB : ae.lU (c :: t) = ((c == 101 || c == 69) && ae.jX (ae.nU t)) := rfl
   rw [hB, Bool.and_eq_true] at h
   have := ae.JY h.2
   have hV : ae.lK (c :: t) = if ae.yC t = true then -(ae.ax (ae.nU t) : Int) else (ae.ax (ae.nU t) : Int) := rfl
   rw [hV]
   split <;> omega
theorem Lt (s : List UInt8) (w : World) (hw : XW w) (hw0 : 0 < w.heap.size) (hs : s.length <= 9223372036854775807) (h : 1000 < s.length) :
  Calls Tryz.prog 111 #[.string (ah s)] w (fQ ([], []) 3 w) := by
 refine yE func111 rfl results111 ntmps111 [] [100018] [.str s] w ?_
 repeat' (first | exact ⟨⟩ | refine yG ?_ ?_ | intro _)
 all_goals first | rfl | (exfalso; omega)
theorem Jg (s : List UInt8) (w : World) (hw : XW w) (hw0 : 0 < w.heap.size) (hs : s.length <= 9223372036854775807) (h : s.length <= 1000) (hx : ae.nz (ae.bf (ae.aO s).1) = true) :
  Calls Tryz.prog 111 #[.string (ah s)] w (fQ ([], []) 10 w) := by
 have HC := fun w => mX s w
 have hL := iP s
 have hR := ae.eH (ae.aO s).1
 have HR := fun w => run_any (ae.aO s).1 w (by omega)
 have HD := fun w => ry (ae.bf (ae.aO s).1) w
 simp only [ae.nz, Bool.and_eq_true, beq_iff_eq, List.isEmpty_iff] at hx
 rw [if_pos hx.1, hx.1] at HD
 have HQ := fun w => run_any (ae.bf (ae.aO s).1).tail w (by have : (ae.bf (ae.aO s).1).tail.length <= (ae.bf (ae.aO s).1).length := (by simp); omega)
 rw [hx.2] at HQ
 generalize ae.bf (ae.bf (ae.aO s).1).tail = r2 at *
 generalize (ae.bf (ae.aO s).1).tail = u at *
 clear hx
 generalize ae.bf (ae.aO s).1 = r1 at *
 generalize ae.aW (ae.aO s).1 = W at *
 generalize (ae.aO s).2 = m at *
 generalize (ae.aO s).1 = rest at *
 refine yE func111 rfl results111 ntmps111 [] [100018] [.str s] w ?_
 repeat' (first | exact ⟨⟩ | refine yG ?_ ?_ | refine yA (.bg [.str rest, .bool m]) (fun _ => HC) ?_ | refine yA (.bg [.str W, .str r1]) (fun _ => HR) ?_ | refine yA (.bg [.str u, .lit true]) (fun _ => HD) ?_ | refine yA (.bg [.str [], .str r2]) (fun _ => HQ) ?_ | intro _)
 all_goals first | rfl | (exfalso; omega) | (exfalso; simp_all; done)
theorem Ls (s : List UInt8) (w : World) (hw : XW w) (hw0 : 0 < w.heap.size) (hs : s.length <= 9223372036854775807) (h : s.length <= 1000) (hx : ae.nz (ae.bf (ae.aO s).1) ≠ true) (hp : (ae.bf (ae.aO s).1).head? = some 46) (hb : ae.gY s = [] \/ ae.lU (ae.fD s) = false) :
  Calls Tryz.prog 111 #[.string (ah s)] w (fQ ([], []) 10 w) := by
 have HC := fun w => mX s w
 have hL := iP s
 have hR := ae.eH (ae.aO s).1
 have HR := fun w => run_any (ae.aO s).1 w (by omega)
 have HD := fun w => ry (ae.bf (ae.aO s).1) w
 have hpx : (ae.bf (ae.aO s).1).head? = some 46 := hp
 have eP : ae.iE s = ae.aW (ae.bf (ae.aO s).1).tail := by unfold ae.iE ae.x8; rw [if_pos hp]
 have eT : ae.fD s = ae.bf (ae.bf (ae.aO s).1).tail := by unfold ae.fD ae.BQ; rw [if_pos hp]
 have hP0 : ae.aW (ae.bf (ae.aO s).1).tail ≠ [] := by
  intro h0
  unfold ae.nz at hx
  rw [hp, h0] at hx
  exact absurd hx (by decide)
 rw [if_pos hp, hp, show ((some (46 : UInt8)) == some 46) = true from rfl] at HD
 have ht : (ae.bf (ae.aO s).1).tail.length <= (ae.bf (ae.aO s).1).length := by simp
 have hQ := ae.eH (ae.bf (ae.aO s).1).tail
 have U5 := ae.gu (ae.bf (ae.aO s).1).tail
 have HQ := fun w => run_any (ae.bf (ae.aO s).1).tail w (by omega)
 have hTl : (ae.fD s).length <= 1000 := by rw [eT]; omega
 have hPl : (ae.iE s).length <= 1000 := by rw [eP]; omega
 have Zt : (ae.gY s).length + (ae.iE s).length <= 1000 := by rw [eP]; unfold ae.gY; omega
 rw [<- eP] at hP0 U5 HQ
 rw [<- eT] at HQ
 have HX := fun w => lV (ae.fD s) w (by omega)
 have eW : ae.aW (ae.aO s).1 = ae.gY s := rfl
 rw [eW] at HR hR
 clear hQ ht hpx
 generalize (ae.bf (ae.aO s).1).tail = u at *
 clear hp hx
 generalize ae.bf (ae.aO s).1 = r1 at *
 clear eW eT eP
 generalize (ae.aO s).2 = m at *
 generalize (ae.aO s).1 = rest at *
 generalize ae.gY s = W at *
 generalize ae.fD s = T at *
 generalize ae.iE s = P at *
 generalize ae.lK T = v at *
 generalize ae.lU T = ok at *
 refine yE func111 rfl results111 ntmps111 [] [100018] [.str s] w ?_
 by_cases hW : W = []
 ·subst hW
  repeat' (first | exact ⟨⟩ | refine yG ?_ ?_ | refine yA (.bg [.str rest, .bool m]) (fun _ => HC) ?_ | refine yA (.bg [.str [], .str r1]) (fun _ => HR) ?_ | refine yA (.bg [.str u, .lit true]) (fun _ => HD) ?_ | refine yA (.bg [.str P, .str T]) (fun _ => HQ) ?_ | refine yA (.bg [.int .i64 (if ok = true then v else 0), .bool ok]) (fun _ => HX) ?_ | intro _)
  all_goals first | rfl | (exfalso; omega) | (exfalso; simp_all; done)
 ·have hok : ok = false := hb.resolve_left hW
  subst hok
  repeat' (first | exact ⟨⟩ | refine yG ?_ ?_ | refine yA (.bg [.str rest, .bool m]) (fun _ => HC) ?_ | refine yA (.bg [.str W, .str r1]) (fun _ => HR) ?_ | refine yA (.bg [.str u, .lit true]) (fun _ => HD) ?_ | refine yA (.bg [.str P, .str T]) (fun _ => HQ) ?_ | refine yA (.bg [.int .i64 (if false = true then v else 0), .bool false]) (fun _ => HX) ?_ | intro _)
  all_goals first | rfl | (exfalso; omega) | (exfalso; simp_all; done)
theorem Jf (s : List UInt8) (w : World) (hw : XW w) (hw0 : 0 < w.heap.size) (hs : s.length <= 9223372036854775807) (h : s.length <= 1000) (hx : ae.nz (ae.bf (ae.aO s).1) ≠ true) (hp : (ae.bf (ae.aO s).1).head? = some 46) (hW : ae.gY s ≠ []) (hB : ae.lU (ae.fD s) = true) :
  Calls Tryz.prog 111 #[.string (ah s)] w (fQ (ae.ak (ae.fA s)) (ae.ay (ae.fA s)) w) := by
 have HC := fun w => mX s w
 have hL := iP s
 have hR := ae.eH (ae.aO s).1
 have HR := fun w => run_any (ae.aO s).1 w (by omega)
 have HD := fun w => ry (ae.bf (ae.aO s).1) w
 have hpx : (ae.bf (ae.aO s).1).head? = some 46 := hp
 have eP : ae.iE s = ae.aW (ae.bf (ae.aO s).1).tail := by unfold ae.iE ae.x8; rw [if_pos hp]
 have eT : ae.fD s = ae.bf (ae.bf (ae.aO s).1).tail := by unfold ae.fD ae.BQ; rw [if_pos hp]
 have hP0 : ae.aW (ae.bf (ae.aO s).1).tail ≠ [] := by
  intro h0
  unfold ae.nz at hx
  rw [hp, h0] at hx
  exact absurd hx (by decide)
 rw [if_pos hp, hp, show ((some (46 : UInt8)) == some 46) = true from rfl] at HD
 have ht : (ae.bf (ae.aO s).1).tail.length <= (ae.bf (ae.aO s).1).length := by simp
 have hQ := ae.eH (ae.bf (ae.aO s).1).tail
 have U5 := ae.gu (ae.bf (ae.aO s).1).tail
 have HQ := fun w => run_any (ae.bf (ae.aO s).1).tail w (by omega)
 have hTl : (ae.fD s).length <= 1000 := by rw [eT]; omega
 have hPl : (ae.iE s).length <= 1000 := by rw [eP]; omega
 have Zt : (ae.gY s).length + (ae.iE s).length <= 1000 := by rw [eP]; unfold ae.gY; omega
 rw [<- eP] at hP0 U5 HQ
 rw [<- eT] at HQ
 have HX := fun w => lV (ae.fD s) w (by omega)
 have hv := ae.Fz _ hB
 simp only [hB, if_true] at HX
 have hWa : (ae.gY s).all ae.aY = true := ae.gu _
 have ha : (ae.gY s ++ ae.iE s).all ae.aY = true := by rw [List.all_append, hWa, U5]; rfl
 have HP := fun w => parse_any (ae.gY s ++ ae.iE s) w (by rw [List.length_append]; omega) ha
 have hn := ae.qG (b := 1000000000) (by omega) ha
 rw [List.length_append] at hn
 have hN : ae.fA s = ae.aG ⟨(ae.aO s).2, ae.ax (ae.gY s ++ ae.iE s), 1⟩ (ae.lK (ae.fD s) - ((ae.iE s).length : Int)) := rfl
 obtain ⟨i0, hi, hz0, hz1, hz2⟩ := info_parts kU
 have hu := underlying137
 have hsz := fun w => sizeOf161 w
 have hzv := fun w => zeroValue161 w
 have hn1 : ae.nd 1000000000 1 = 1 := ae.gq (by omega)
 have hv1 : nv .u32 1000000000 1 = [.int .u32 1] := oO (by omega)
 have W1 := fun (x : bI) (w' : World) (h : BW w w') => write_any x w' (hw.below h) (zl hw0 h.size)
 have eW : ae.aW (ae.aO s).1 = ae.gY s := rfl
 rw [eW] at HR hR
 clear hQ ht hpx
 generalize (ae.bf (ae.aO s).1).tail = u at *
 clear hp hx
 generalize ae.bf (ae.aO s).1 = r1 at *
 clear eW eT eP
 generalize (ae.aO s).2 = m at *
 generalize (ae.aO s).1 = rest at *
 generalize ae.gY s = W at *
 generalize ae.fD s = T at *
 generalize ae.iE s = P at *
 generalize ae.lK T = v at *
 generalize ae.ax (W ++ P) = V at *
 generalize ae.fA s = N at *
 obtain ⟨k, hk⟩ : ∃ k, k = (v - ((P).length : Int)).natAbs := ⟨_, rfl⟩
 have hk2 : k <= 2000 := by (try simp only [List.length_nil] at hk); omega
 have HT := fun (w' : World) (h : BW w w') => wU k w' (zl hw0 h.size) (by omega)
 have hnt := ae.BK (b := 1000000000) (by omega) k
 have hnm := ae.iV (b := 1000000000) (x := V) (y := 10 ^ k) (by omega)
 have hkp : 0 < 10 ^ k := Nat.pow_pos (by omega)
 by_cases hneg : v - ((P).length : Int) < 0
 ·have xU : N = ⟨m, V, 10 ^ k⟩ := by
   rw [hN, ae.aG, if_pos hneg, <- hk]
   simp
  rw [xU]
  have hkk : 0 - (v - ((P).length : Int)) = (k : Int) := by omega
  clear hN xU
  refine yE func111 rfl results111 ntmps111 [] [100018] [.str s] w ?_
  repeat' (first | exact ⟨⟩ | refine yG ?_ ?_ | refine yA (.bg [.str rest, .bool m]) (fun _ => HC) ?_ | refine yA (.bg [.str W, .str r1]) (fun _ => HR) ?_ | refine yA (.bg [.str u, .lit true]) (fun _ => HD) ?_ | refine yA (.bg [.str P, .str T]) (fun _ => HQ) ?_ | refine yA (.bg [.int .i64 v, .bool true]) (fun _ => HX) ?_ | (refine aH .u32 1000000000 V hw0 (by kernel_rfl) rfl (fun β w' hm => HP w') (fun a1 c1 q1 q2 q3 => ?_)) | (refine aH .u32 1000000000 (10 ^ k) hw0 (by kernel_rfl) rfl (fun β w' hm => by simp only [SV.aF, SV.den]; rw [hkk]; exact HT w' hm.below) (fun a2 c2 q4 q5 q6 => ?_)) | refine yK (.bg [.agg [.str (ae.ak ⟨m, V, 10 ^ k⟩).1, .str (ae.ak ⟨m, V, 10 ^ k⟩).2], .int .i64 (ae.ay ⟨m, V, 10 ^ k⟩)]) (fun β w hm => W1 ⟨m, V, 10 ^ k, a1, c1, a2, c2⟩ w hm.below (aX.of (df hm) (df hm) ⟨q1, q4, q2, q5⟩) hkp (by dsimp only; omega) (by dsimp only; omega)) ?_ | (refine aI (sz := 1) rfl rfl rfl (xs := [.int .u32 1]) (fun β => rfl) rfl (by omega) (by omega) hu hsz hzv (fun g1 => ?_)) | intro _)
  all_goals first | rfl | (exfalso; omega) | (exfalso; simp_all; done)
 ·have xU : N = ⟨m, V * 10 ^ k, 1⟩ := by
   rw [hN, ae.aG, if_neg hneg, <- hk]
  rw [xU]
  have hkk : v - ((P).length : Int) = (k : Int) := by omega
  clear hN xU
  refine yE func111 rfl results111 ntmps111 [] [100018] [.str s] w ?_
  repeat' (first | exact ⟨⟩ | refine yG ?_ ?_ | refine yA (.bg [.str rest, .bool m]) (fun _ => HC) ?_ | refine yA (.bg [.str W, .str r1]) (fun _ => HR) ?_ | refine yA (.bg [.str u, .lit true]) (fun _ => HD) ?_ | refine yA (.bg [.str P, .str T]) (fun _ => HQ) ?_ | refine yA (.bg [.int .i64 v, .bool true]) (fun _ => HX) ?_ | (refine aH .u32 1000000000 V hw0 (by kernel_rfl) rfl (fun β w' hm => HP w') (fun a1 c1 q1 q2 q3 => ?_)) | (refine aH .u32 1000000000 (10 ^ k) hw0 (by kernel_rfl) rfl (fun β w' hm => by simp only [SV.aF, SV.den]; rw [hkk]; exact HT w' hm.below) (fun a2 c2 q4 q5 q6 => ?_)) | (refine aH .u32 1000000000 (V * 10 ^ k) hw0 (by kernel_rfl) rfl (fun β w' hm => times_any a1 a2 c1 c2 V (10 ^ k) w' (by omega) (by omega) (df hm) (df hm)) (fun a3 c3 q7 q8 q9 => ?_)) | refine yK (.bg [.agg [.str (ae.ak ⟨m, V * 10 ^ k, 1⟩).1, .str (ae.ak ⟨m, V * 10 ^ k, 1⟩).2], .int .i64 (ae.ay ⟨m, V * 10 ^ k, 1⟩)]) (fun β w hm => by have W2 := W1 ⟨m, V * 10 ^ k, 1, a3, c3, some ⟨g1, 0, none⟩, 1⟩ w hm.below (aX.of (df hm) (by rw [hv1]; first | exact (hm.own 1 rfl).1 | exact (hm.own 2 rfl).1 | exact (hm.own 3 rfl).1) ⟨q7, (fun h => by cases h), q8, by dsimp only; omega⟩) (by dsimp only; omega) (by dsimp only; omega) (by dsimp only; omega); simp only [bI.val, hn1] at W2; exact W2) ?_ | (refine aI (sz := 1) rfl rfl rfl (xs := [.int .u32 1]) (fun β => rfl) rfl (by omega) (by omega) hu hsz hzv (fun g1 => ?_)) | intro _)
  all_goals first | rfl | (exfalso; omega) | (exfalso; simp_all; done)
theorem Lr (s : List UInt8) (w : World) (hw : XW w) (hw0 : 0 < w.heap.size) (hs : s.length <= 9223372036854775807) (h : s.length <= 1000) (hx : ae.nz (ae.bf (ae.aO s).1) ≠ true) (hp : (ae.bf (ae.aO s).1).head? ≠ some 46) (hb : ae.gY s = [] \/ ae.lU (ae.fD s) = false) :
  Calls Tryz.prog 111 #[.string (ah s)] w (fQ ([], []) 10 w) := by
 have HC := fun w => mX s w
 have hL := iP s
 have hR := ae.eH (ae.aO s).1
 have HR := fun w => run_any (ae.aO s).1 w (by omega)
 have HD := fun w => ry (ae.bf (ae.aO s).1) w
 have hpx : (ae.bf (ae.aO s).1).head? ≠ some 46 := hp
 have eP : ae.iE s = [] := by unfold ae.iE ae.x8; rw [if_neg hp]
 have eT : ae.fD s = ae.bf (ae.aO s).1 := by unfold ae.fD ae.BQ; rw [if_neg hp]
 rw [if_neg hp, beq_eq_false_iff_ne.2 hp] at HD
 have hTl : (ae.fD s).length <= 1000 := by rw [eT]; omega
 have U5 : (ae.iE s).all ae.aY = true := by rw [eP]; rfl
 have hPl : (ae.iE s).length <= 1000 := by rw [eP]; simp
 have Zt : (ae.gY s).length + (ae.iE s).length <= 1000 := by rw [eP]; unfold ae.gY; simp; omega
 rw [<- eT] at HD HR
 have HX := fun w => lV (ae.fD s) w (by omega)
 have eW : ae.aW (ae.aO s).1 = ae.gY s := rfl
 rw [eW] at HR hR
 clear hpx hp hx hR
 clear eW eT eP
 generalize (ae.aO s).2 = m at *
 generalize (ae.aO s).1 = rest at *
 generalize ae.gY s = W at *
 generalize ae.fD s = T at *
 generalize ae.lK T = v at *
 generalize ae.lU T = ok at *
 refine yE func111 rfl results111 ntmps111 [] [100018] [.str s] w ?_
 by_cases hW : W = []
 ·subst hW
  repeat' (first | exact ⟨⟩ | refine yG ?_ ?_ | refine yA (.bg [.str rest, .bool m]) (fun _ => HC) ?_ | refine yA (.bg [.str [], .str T]) (fun _ => HR) ?_ | refine yA (.bg [.str T, .lit false]) (fun _ => HD) ?_ | refine yA (.bg [.int .i64 (if ok = true then v else 0), .bool ok]) (fun _ => HX) ?_ | intro _)
  all_goals first | rfl | (exfalso; omega) | (exfalso; simp_all; done)
 ·have hok : ok = false := hb.resolve_left hW
  subst hok
  repeat' (first | exact ⟨⟩ | refine yG ?_ ?_ | refine yA (.bg [.str rest, .bool m]) (fun _ => HC) ?_ | refine yA (.bg [.str W, .str T]) (fun _ => HR) ?_ | refine yA (.bg [.str T, .lit false]) (fun _ => HD) ?_ | refine yA (.bg [.int .i64 (if false = true then v else 0), .bool false]) (fun _ => HX) ?_ | intro _)
  all_goals first | rfl | (exfalso; omega) | (exfalso; simp_all; done)
theorem Je (s : List UInt8) (w : World) (hw : XW w) (hw0 : 0 < w.heap.size) (hs : s.length <= 9223372036854775807) (h : s.length <= 1000) (hx : ae.nz (ae.bf (ae.aO s).1) ≠ true) (hp : (ae.bf (ae.aO s).1).head? ≠ some 46) (hW : ae.gY s ≠ []) (hB : ae.lU (ae.fD s) = true) :
  Calls Tryz.prog 111 #[.string (ah s)] w (fQ (ae.ak (ae.fA s)) (ae.ay (ae.fA s)) w) := by
 have HC := fun w => mX s w
 have hL := iP s
 have hR := ae.eH (ae.aO s).1
 have HR := fun w => run_any (ae.aO s).1 w (by omega)
 have HD := fun w => ry (ae.bf (ae.aO s).1) w
 have hpx : (ae.bf (ae.aO s).1).head? ≠ some 46 := hp
 have eP : ae.iE s = [] := by unfold ae.iE ae.x8; rw [if_neg hp]
 have eT : ae.fD s = ae.bf (ae.aO s).1 := by unfold ae.fD ae.BQ; rw [if_neg hp]
 rw [if_neg hp, beq_eq_false_iff_ne.2 hp] at HD
 have hTl : (ae.fD s).length <= 1000 := by rw [eT]; omega
 have U5 : (ae.iE s).all ae.aY = true := by rw [eP]; rfl
 have hPl : (ae.iE s).length <= 1000 := by rw [eP]; simp
 have Zt : (ae.gY s).length + (ae.iE s).length <= 1000 := by rw [eP]; unfold ae.gY; simp; omega
 rw [<- eT] at HD HR
 have HX := fun w => lV (ae.fD s) w (by omega)
 have hv := ae.Fz _ hB
 simp only [hB, if_true] at HX
 have hWa : (ae.gY s).all ae.aY = true := ae.gu _
 have ha : (ae.gY s ++ ae.iE s).all ae.aY = true := by rw [List.all_append, hWa, U5]; rfl
 have HP := fun w => parse_any (ae.gY s ++ ae.iE s) w (by rw [List.length_append]; omega) ha
 have hn := ae.qG (b := 1000000000) (by omega) ha
 rw [List.length_append] at hn
 have hN : ae.fA s = ae.aG ⟨(ae.aO s).2, ae.ax (ae.gY s ++ ae.iE s), 1⟩ (ae.lK (ae.fD s) - ((ae.iE s).length : Int)) := rfl
 obtain ⟨i0, hi, hz0, hz1, hz2⟩ := info_parts kU
 have hu := underlying137
 have hsz := fun w => sizeOf161 w
 have hzv := fun w => zeroValue161 w
 have hn1 : ae.nd 1000000000 1 = 1 := ae.gq (by omega)
 have hv1 : nv .u32 1000000000 1 = [.int .u32 1] := oO (by omega)
 have W1 := fun (x : bI) (w' : World) (h : BW w w') => write_any x w' (hw.below h) (zl hw0 h.size)
 have eW : ae.aW (ae.aO s).1 = ae.gY s := rfl
 rw [eW] at HR hR
 clear hpx hp hx hR
 rw [eP] at HP hn hN Zt hPl ha
 clear eW eT eP
 generalize (ae.aO s).2 = m at *
 generalize (ae.aO s).1 = rest at *
 generalize ae.gY s = W at *
 generalize ae.fD s = T at *
 generalize ae.lK T = v at *
 generalize ae.ax (W ++ ([] : List UInt8)) = V at *
 generalize ae.fA s = N at *
 obtain ⟨k, hk⟩ : ∃ k, k = (v - ((([] : List UInt8)).length : Int)).natAbs := ⟨_, rfl⟩
 have hk2 : k <= 2000 := by (try simp only [List.length_nil] at hk); omega
 have HT := fun (w' : World) (h : BW w w') => wU k w' (zl hw0 h.size) (by omega)
 have hnt := ae.BK (b := 1000000000) (by omega) k
 have hnm := ae.iV (b := 1000000000) (x := V) (y := 10 ^ k) (by omega)
 have hkp : 0 < 10 ^ k := Nat.pow_pos (by omega)
 by_cases hneg : v - ((([] : List UInt8)).length : Int) < 0
 ·have xU : N = ⟨m, V, 10 ^ k⟩ := by
   rw [hN, ae.aG, if_pos hneg, <- hk]
   simp
  rw [xU]
  have hkk : 0 - (v - ((([] : List UInt8)).length : Int)) = (k : Int) := by omega
  clear hN xU
  refine yE func111 rfl results111 ntmps111 [] [100018] [.str s] w ?_
  repeat' (first | exact ⟨⟩ | refine yG ?_ ?_ | refine yA (.bg [.str rest, .bool m]) (fun _ => HC) ?_ | refine yA (.bg [.str W, .str T]) (fun _ => HR) ?_ | refine yA (.bg [.str T, .lit false]) (fun _ => HD) ?_ | refine yA (.bg [.int .i64 v, .bool true]) (fun _ => HX) ?_ | (refine aH .u32 1000000000 V hw0 (by kernel_rfl) rfl (fun β w' hm => HP w') (fun a1 c1 q1 q2 q3 => ?_)) | (refine aH .u32 1000000000 (10 ^ k) hw0 (by kernel_rfl) rfl (fun β w' hm => by simp only [SV.aF, SV.den]; rw [hkk]; exact HT w' hm.below) (fun a2 c2 q4 q5 q6 => ?_)) | refine yK (.bg [.agg [.str (ae.ak ⟨m, V, 10 ^ k⟩).1, .str (ae.ak ⟨m, V, 10 ^ k⟩).2], .int .i64 (ae.ay ⟨m, V, 10 ^ k⟩)]) (fun β w hm => W1 ⟨m, V, 10 ^ k, a1, c1, a2, c2⟩ w hm.below (aX.of (df hm) (df hm) ⟨q1, q4, q2, q5⟩) hkp (by dsimp only; omega) (by dsimp only; omega)) ?_ | (refine aI (sz := 1) rfl rfl rfl (xs := [.int .u32 1]) (fun β => rfl) rfl (by omega) (by omega) hu hsz hzv (fun g1 => ?_)) | intro _)
  all_goals first | rfl | (exfalso; omega) | (exfalso; simp_all; done)
 ·have xU : N = ⟨m, V * 10 ^ k, 1⟩ := by
   rw [hN, ae.aG, if_neg hneg, <- hk]
  rw [xU]
  have hkk : v - ((([] : List UInt8)).length : Int) = (k : Int) := by omega
  clear hN xU
  refine yE func111 rfl results111 ntmps111 [] [100018] [.str s] w ?_
  repeat' (first | exact ⟨⟩ | refine yG ?_ ?_ | refine yA (.bg [.str rest, .bool m]) (fun _ => HC) ?_ | refine yA (.bg [.str W, .str T]) (fun _ => HR) ?_ | refine yA (.bg [.str T, .lit false]) (fun _ => HD) ?_ | refine yA (.bg [.int .i64 v, .bool true]) (fun _ => HX) ?_ | (refine aH .u32 1000000000 V hw0 (by kernel_rfl) rfl (fun β w' hm => HP w') (fun a1 c1 q1 q2 q3 => ?_)) | (refine aH .u32 1000000000 (10 ^ k) hw0 (by kernel_rfl) rfl (fun β w' hm => by simp only [SV.aF, SV.den]; rw [hkk]; exact HT w' hm.below) (fun a2 c2 q4 q5 q6 => ?_)) | (refine aH .u32 1000000000 (V * 10 ^ k) hw0 (by kernel_rfl) rfl (fun β w' hm => times_any a1 a2 c1 c2 V (10 ^ k) w' (by omega) (by omega) (df hm) (df hm)) (fun a3 c3 q7 q8 q9 => ?_)) | refine yK (.bg [.agg [.str (ae.ak ⟨m, V * 10 ^ k, 1⟩).1, .str (ae.ak ⟨m, V * 10 ^ k, 1⟩).2], .int .i64 (ae.ay ⟨m, V * 10 ^ k, 1⟩)]) (fun β w hm => by have W2 := W1 ⟨m, V * 10 ^ k, 1, a3, c3, some ⟨g1, 0, none⟩, 1⟩ w hm.below (aX.of (df hm) (by rw [hv1]; first | exact (hm.own 1 rfl).1 | exact (hm.own 2 rfl).1 | exact (hm.own 3 rfl).1) ⟨q7, (fun h => by cases h), q8, by dsimp only; omega⟩) (by dsimp only; omega) (by dsimp only; omega) (by dsimp only; omega); simp only [bI.val, hn1] at W2; exact W2) ?_ | (refine aI (sz := 1) rfl rfl rfl (xs := [.int .u32 1]) (fun β => rfl) rfl (by omega) (by omega) hu hsz hzv (fun g1 => ?_)) | intro _)
  all_goals first | rfl | (exfalso; omega) | (exfalso; simp_all; done)
theorem x9 (s : List UInt8) (w : World) (hw : XW w) (hw0 : 0 < w.heap.size) (hs : s.length <= 9223372036854775807) :
  Calls Tryz.prog 111 #[.string (ah s)] w (fQ (if ae.jM s = 0 then ae.ak (ae.fA s) else ([], [])) (if ae.jM s = 0 then ae.ay (ae.fA s) else ae.jM s) w) := by
 have hE : ae.jM s = if 1000 < s.length then 3 else if ae.nz (ae.bf (ae.aO s).1) = true \/ ae.gY s = [] \/ ae.lU (ae.fD s) = false then 10 else 0 := rfl
 by_cases h : 1000 < s.length
 ·rw [if_pos h] at hE
  rw [hE]
  exact Lt s w hw hw0 hs h
 rw [if_neg h] at hE
 by_cases hx : ae.nz (ae.bf (ae.aO s).1) = true
 ·rw [if_pos (.inl hx)] at hE
  rw [hE]
  exact Jg s w hw hw0 hs (by omega) hx
 by_cases hb : ae.gY s = [] \/ ae.lU (ae.fD s) = false
 ·rw [if_pos (.inr hb)] at hE
  rw [hE]
  by_cases hp : (ae.bf (ae.aO s).1).head? = some 46
  ·exact Ls s w hw hw0 hs (by omega) hx hp hb
  ·exact Lr s w hw hw0 hs (by omega) hx hp hb
 ·rw [if_neg (fun h => h.elim hx hb)] at hE
  rw [hE]
  simp only [not_or, Bool.not_eq_false] at hb
  by_cases hp : (ae.bf (ae.aO s).1).head? = some 46
  ·exact Jf s w hw hw0 hs (by omega) hx hp hb.1 hb.2
  ·exact Je s w hw hw0 hs (by omega) hx hp hb.1 hb.2
theorem oJ (s : List UInt8) (w : World) (hs : s.length <= 9223372036854775807) : QC 119 #[.string (ah s)] w (.tuple #[.string (ah (ae.aW s)), .string (ah (ae.bf s))]) := by
 have HT := fun w => wV s w
 have h1 := ae.eH s
 have h2 := ae.Jw s
 generalize ae.bf s = r at *
 refine yE func119 rfl results119 ntmps119 [] [] [.str s] w ?_
 repeat' (first | exact ⟨⟩ | refine yG ?_ ?_ | refine yA (.str r) (fun _ => HT) ?_ | ((with_reducible show ∃ _, _); first | (refine ⟨s.length - r.length, by omega, by omega, ?_⟩)) | intro _)
 all_goals first | (rw [h2]; rfl) | (simp [SV.den, SV.aF, h2]; done) | skip
theorem KH (s : List UInt8) (w : World) (hs : s.length <= 9223372036854775807) : QC 110 #[.string (ah s), .string (ah [37])] w (.tuple #[.string (ah (af.gW s).1), .bool (af.gW s).2]) := by
 refine (Tryz.strings_CutSuffix (ah s) (ah [37]) w hs).mono ?_
 rintro e w' ⟨h, rfl⟩
 refine ⟨?_, Below.refl _ _⟩
 rw [h, show (ah s).data.toList = s from rfl, show (ah [37]).data.toList = [37] from rfl]
 have e1 : Lib.hasSuffix s [37] = decide (s.getLast? = some 37) := by
  rw [Bool.eq_iff_iff, decide_eq_true_eq]
  unfold Lib.hasSuffix
  rw [List.isSuffixOf_iff_suffix]
  constructor
  ·rintro ⟨t, rfl⟩; simp
  ·intro h
   obtain ⟨t, rfl⟩ := List.getLast?_eq_some_iff.1 h
   exact ⟨t, rfl⟩
 unfold Lib.trimSuffix af.gW
 rw [e1]
 by_cases hl : s.getLast? = some 37
 ·rw [decide_eq_true hl, if_pos rfl, if_pos hl]
  obtain ⟨t, rfl⟩ := List.getLast?_eq_some_iff.1 hl
  have e2 : (t ++ [37]).take ((t ++ [37]).length - 1) = t := by simp
  show Ending.returned (.tuple #[.string (ah ((t ++ [37]).take ((t ++ [37]).length - 1))), .bool true]) = _
  rw [e2, List.dropLast_concat]
 ·rw [decide_eq_false hl, if_neg Bool.false_ne_true, if_neg hl]
  rfl
theorem af.Iq : ∀ (k : Nat) (d r : List UInt8), (af.lW k d r).1.length + (af.lW k d r).2.length <= d.length + r.length
 | 0, d, r => Nat.le_refl _
 | k + 1, d, r => by
   unfold af.lW
   split
   ·have h1 := af.Iq k (d ++ ae.aW r.tail) (ae.bf r.tail)
    have h2 := ae.eH r.tail
    have h3 : r.tail.length <= r.length := by simp
    rw [List.length_append] at h1
    omega
   ·exact Nat.le_refl _
theorem af.Nu (s : List UInt8) : (af.grp s).1.length + (af.grp s).2.length <= s.length := by
 have h2 := ae.eH s
 unfold af.grp
 split
 ·exact Nat.le_of_eq h2
 ·have h1 := af.Iq (ae.bf s).length (ae.aW s) (ae.bf s)
  unfold af.mY
  omega
theorem Io (s : List UInt8) (w : World) (hs : s.length <= 1000000) : QC 109 #[.string (ah s)] w (.tuple #[.string (ah (af.grp s).1), .string (ah (af.grp s).2)]) := by
 have D := fun (t : List UInt8) (h : t.length <= 1000000) (w' : World) => oJ t w' (by omega)
 have H := fun (t : List UInt8) (w' : World) => jC t 44 w'
 have D0 := D s hs
 have hG : af.grp s = if (ae.aW s).length < 1 \/ 3 < (ae.aW s).length then (ae.aW s, ae.bf s) else af.mY (ae.aW s) (ae.bf s) := rfl
 have hl := ae.eH s
 generalize af.grp s = G at *
 generalize ae.aW s = d0 at *
 generalize ae.bf s = r0 at *
 refine yE func109 rfl results109 ntmps109 [] [] [.str s] w ?_
 repeat' (first | exact ⟨⟩ | refine yG ?_ ?_ | refine yA (.bg [.str d0, .str r0]) (fun _ => D0) ?_ | intro _)
 all_goals first | (rw [hG, if_pos (by omega)]; rfl) | skip
 rw [if_neg (by omega)] at hG
 refine yZ (T := {t : List UInt8 × List UInt8 // t.1.length + t.2.length <= 1000000 /\ af.mY t.1 t.2 = G}) (fun t => ⟨[(4, .str t.1.1), (5, .str t.1.2)], [], 0, 40⟩) (fun t => t.1.2.length) ⟨(d0, r0), by dsimp only; omega, hG.symm⟩ [] [] (fun t I hI => ?_)
 obtain ⟨⟨d, r⟩, hdr, hg⟩ := t
 dsimp only
 have hdr : d.length + r.length <= 1000000 := hdr
 have hg : af.mY d r = G := hg
 have hst := af.tN d r
 rw [hg] at hst
 have H0 := H r
 cases r with
 | nil =>
   rw [if_neg (fun h => by cases h.1)] at hst
   have H0 : ∀ w' : World, QC 162 #[.string (ah []), .string (ah [44])] w' (.bool false) := H0
   subst hst
   repeat' (first | exact ⟨⟩ | refine yG ?_ ?_ | refine yA (.lit false) (fun _ => H0) ?_ | intro _)
   all_goals rfl
 | cons x q =>
   have hq := ae.eH q
   have D1 := D q (by simp at hdr; omega)
   have hlc : (x :: q).length = q.length + 1 := rfl
   have htl : (x :: q).tail = q := rfl
   rw [htl] at hst
   by_cases hx : x = 44
   ·subst hx
    have H0 : ∀ w' : World, QC 162 #[.string (ah (44 :: q)), .string (ah [44])] w' (.bool true) := H0
    generalize ae.aW q = d1 at *
    generalize ae.bf q = r1 at *
    repeat' (first | exact ⟨⟩ | refine yG ?_ ?_ | refine yA (.lit true) (fun _ => H0) ?_ | refine yA (.bg [.str d1, .str r1]) (fun _ => D1) ?_ | ((with_reducible show ∃ _, _); first | (refine ⟨1, rfl, by omega, ?_⟩)) | intro _)
    all_goals first | (rw [if_neg (fun h => by omega)] at hst; subst hst; rfl) | (refine hI _ ⟨(d ++ d1, r1), by simp only [List.length_append]; omega, by rw [hst, if_pos ⟨rfl, by omega⟩]⟩ (by dsimp only; omega) yW; done)
   ·have H0 : ∀ w' : World, QC 162 #[.string (ah (x :: q)), .string (ah [44])] w' (.bool false) := by
     have e : ((x :: q).head? == some 44) = false := by rw [beq_eq_false_iff_ne]; intro e; exact hx (by simpa using e)
     rw [e] at H0; exact H0
    rw [if_neg (fun h => hx (by simpa using h.1))] at hst
    subst hst
    repeat' (first | exact ⟨⟩ | refine yG ?_ ?_ | refine yA (.lit false) (fun _ => H0) ?_ | intro _)
    all_goals rfl
theorem wW (c : UInt8) (w : World) : QC 108 #[.string (ah [c]), .string (ah [43])] w (.string (ah (if c = 43 then [] else [c]))) := by
 refine (Tryz.strings_TrimPrefix (ah [c]) (ah [43]) w).mono ?_
 rintro e w' ⟨h, rfl⟩
 refine ⟨?_, Below.refl _ _⟩
 rw [h, show (ah [c]).data.toList = [c] from rfl, show (ah [43]).data.toList = [43] from rfl]
 unfold Lib.trimPrefix Lib.hasPrefix
 by_cases hc : c = 43
 ·subst hc; rfl
 ·have : ([43].isPrefixOf [c]) = false := by simp [List.isPrefixOf]; exact fun e => hc e.symm
  rw [this, if_neg Bool.false_ne_true, if_neg hc]; rfl
section
variable (c : UInt8) (q sg s1 d r r2 : List UInt8) (pc ok : Bool) (Ua Ub Um Un H1 H2 F1 F2 : List UInt8) (PE QE : Int) (w : World)
 (hl : (c :: q).length <= 40000) (hdr : d.length + r2.length <= 40000)
 (G : ∀ w', BW w w' -> QC 109 #[.string (ah s1)] w' (.tuple #[.string (ah d), .string (ah r)]))
 (U : ∀ w', BW w w' -> QC 110 #[.string (ah r), .string (ah [37])] w' (.tuple #[.string (ah r2), .bool pc]))
 (P : ∀ w', BW w w' -> Calls Tryz.prog 111 #[.string (ah (sg ++ d ++ r2))] w' (fQ (Ua, Ub) PE w'))
 (O : ∀ w', BW w w' -> QC 77 #[.int .i64 100] w' (iI (H1, H2)))
 (V : ∀ w', BW w w' -> Calls Tryz.prog 112 #[iI (Ua, Ub), iI (H1, H2)] w' (fQ (Um, Un) QE w'))
 (h1 : d = [] -> F1 = [] /\ F2 = [] /\ ok = false) (h2 : d ≠ [] -> ¬ (PE = 0 /\ pc = true) -> F1 = Ua /\ F2 = Ub /\ ok = decide (PE = 0)) (h3 : d ≠ [] -> PE = 0 -> pc = true -> F1 = Um /\ F2 = Un /\ ok = decide (QE = 0))
include hl hdr G U P O V h1 h2 h3
theorem Jb (hc : c = 43) (hs : sg = [] /\ s1 = q) : QC 56 #[.string (ah (c :: q))] w (.tuple #[iI (F1, F2), .bool ok]) := by
 obtain ⟨rfl, rfl⟩ := hs
 subst hc
 have hg0 : ((43 :: s1).getD 0 0).toNat = 43 := rfl
 have T := fun (w' : World) => wW 43 w'
 rw [if_pos rfl] at T
 refine yE func56 rfl results56 ntmps56 [] [200003, 200010] [.str (43 :: s1)] w ?_
 repeat' (first | exact ⟨⟩ | refine yG ?_ ?_ | refine yA (.str []) (fun _ => T) ?_ | refine yB (.bg [.str d, .str r]) (fun _ => G) ?_ | refine yB (.bg [.str r2, .bool pc]) (fun _ => U) ?_ | refine yB (.bg [.agg [.str Ua, .str Ub], .int .i64 PE]) (fun _ => P) ?_ | refine yB (.agg [.str H1, .str H2]) (fun _ => O) ?_ | refine yB (.bg [.agg [.str Um, .str Un], .int .i64 QE]) (fun _ => V) ?_ | ((with_reducible show ∃ _, _); first | (refine ⟨0, rfl, by simp, ?_⟩) | (refine ⟨1, rfl, by simp, ?_⟩)) | intro _)
 all_goals first | (exfalso; omega) | (obtain ⟨rfl, rfl, rfl⟩ := h1 (by assumption); rfl) | (obtain ⟨rfl, rfl, e⟩ := h3 (by assumption) (by assumption) (by assumption); rw [e]; rfl) | (obtain ⟨rfl, rfl, e⟩ := h2 (by assumption) (fun h => by have := h.1; have := h.2; simp_all); rw [e]; rfl)
theorem F6 (hc : c = 45) (hs : sg = [45] /\ s1 = q) : QC 56 #[.string (ah (c :: q))] w (.tuple #[iI (F1, F2), .bool ok]) := by
 obtain ⟨rfl, rfl⟩ := hs
 subst hc
 have hg0 : ((45 :: s1).getD 0 0).toNat = 45 := rfl
 have T := fun (w' : World) => wW 45 w'
 rw [if_neg (by decide)] at T
 refine yE func56 rfl results56 ntmps56 [] [200003, 200010] [.str (45 :: s1)] w ?_
 repeat' (first | exact ⟨⟩ | refine yG ?_ ?_ | refine yA (.str [45]) (fun _ => T) ?_ | refine yB (.bg [.str d, .str r]) (fun _ => G) ?_ | refine yB (.bg [.str r2, .bool pc]) (fun _ => U) ?_ | refine yB (.bg [.agg [.str Ua, .str Ub], .int .i64 PE]) (fun _ => P) ?_ | refine yB (.agg [.str H1, .str H2]) (fun _ => O) ?_ | refine yB (.bg [.agg [.str Um, .str Un], .int .i64 QE]) (fun _ => V) ?_ | ((with_reducible show ∃ _, _); first | (refine ⟨0, rfl, by simp, ?_⟩) | (refine ⟨1, rfl, by simp, ?_⟩)) | intro _)
 all_goals first | (exfalso; omega) | (obtain ⟨rfl, rfl, rfl⟩ := h1 (by assumption); rfl) | (obtain ⟨rfl, rfl, e⟩ := h3 (by assumption) (by assumption) (by assumption); rw [e]; rfl) | (obtain ⟨rfl, rfl, e⟩ := h2 (by assumption) (fun h => by have := h.1; have := h.2; simp_all); rw [e]; rfl)
theorem Ja (hc : c ≠ 43 /\ c ≠ 45) (hs : sg = [] /\ s1 = c :: q) : QC 56 #[.string (ah (c :: q))] w (.tuple #[iI (F1, F2), .bool ok]) := by
 have _hl := hl
 obtain ⟨rfl, rfl⟩ := hs
 have hg0 : ((c :: q).getD 0 0).toNat ≠ 43 /\ ((c :: q).getD 0 0).toNat ≠ 45 := ⟨fun e => hc.1 (UInt8.toNat_inj.1 e), fun e => hc.2 (UInt8.toNat_inj.1 e)⟩
 refine yE func56 rfl results56 ntmps56 [] [200003, 200010] [.str (c :: q)] w ?_
 repeat' (first | exact ⟨⟩ | refine yG ?_ ?_ | refine yB (.bg [.str d, .str r]) (fun _ => G) ?_ | refine yB (.bg [.str r2, .bool pc]) (fun _ => U) ?_ | refine yB (.bg [.agg [.str Ua, .str Ub], .int .i64 PE]) (fun _ => P) ?_ | refine yB (.agg [.str H1, .str H2]) (fun _ => O) ?_ | refine yB (.bg [.agg [.str Um, .str Un], .int .i64 QE]) (fun _ => V) ?_ | ((with_reducible show ∃ _, _); first | (refine ⟨0, rfl, by simp, ?_⟩) | (refine ⟨1, rfl, by simp, ?_⟩)) | intro _)
 all_goals first | (exfalso; omega) | (obtain ⟨rfl, rfl, rfl⟩ := h1 (by assumption); rfl) | (obtain ⟨rfl, rfl, e⟩ := h3 (by assumption) (by assumption) (by assumption); rw [e]; rfl) | (obtain ⟨rfl, rfl, e⟩ := h2 (by assumption) (fun h => by have := h.1; have := h.2; simp_all); rw [e]; rfl)
end
end
section
open Go.RowKit
open Sym
theorem XV.pos {w : World} (h : XV w) : 0 < w.heap.size := by
 obtain ⟨m, hm⟩ := h.len
 exact Nat.lt_of_le_of_lt (Nat.zero_le _) (World.block_lt_of_cell? _ _ hm)
namespace ae
theorem dI (x : Num) : (ak x).1.length <= 301 /\ (ak x).2.length <= 300 := by
 unfold ak
 split
 ·exact ⟨by simp, by simp⟩
 ·split
  ·exact ⟨by simp, by simp⟩
  ·rename_i h
   unfold lg at h
   have : (pU x.m (Lib.decDigits (gI x))).length <= (Lib.decDigits (gI x)).length + 1 := by unfold pU; split <;> simp
   exact ⟨by dsimp only; omega, by dsimp only; omega⟩
theorem ui {x : Num} {k : Int} (h : 0 < x.d) : 0 < (aG x k).d := by
 unfold aG
 split
 ·exact Nat.mul_pos h (Nat.pow_pos (by omega))
 ·exact h
theorem vW (s : Str) : 0 < (fA s).d := ui Nat.one_pos
theorem Fg {n : Nat} (h : nd 10 n <= 300) : (Lib.decDigits n).length <= 300 := by
 rcases Nat.eq_zero_or_pos n with rfl | h0
 ·rw [Lib.decDigits_one (by omega)]; simp
 ·rw [uV h0]; exact h
theorem read_whole {n : Nat} (h : nd 10 n <= 300) : bQ (Lib.decDigits n, [49]) = 0 /\ az (Lib.decDigits n, [49]) = ⟨false, n, 1⟩ := by
 have e1 : Lib.decDigits 1 = [49] := by rw [Lib.decDigits_one (by omega)]; rfl
 rw [<- e1]
 exact kG (by omega) (Fg h) (Fg (by rw [gq (by omega)]; omega)) (Nat.gcd_one_right n)
theorem div_eq {x y : Num} {n : Nat} (h : GU x y) (hn : 0 < n) : GU (divN x ⟨false, n, 1⟩) ⟨y.m, y.n, y.d * n⟩ := by
 have e : divN x ⟨false, n, 1⟩ = ⟨x.m != false, x.n * 1, x.d * n⟩ := by unfold divN; rw [if_neg (by dsimp only; omega)]; rfl
 rw [e]
 refine ⟨Nat.mul_pos h.dx hn, Nat.mul_pos h.dy hn, ?_, ?_⟩
 ·dsimp only
  rw [Nat.mul_one, <- Nat.mul_assoc, h.cross, Nat.mul_assoc]
 ·intro h0
  have := h.sign (by simpa using h0)
  dsimp only
  rw [this]; simp
end ae
section
attribute [local irreducible] Calls Sym.bM ae.nd ae.bu ae.upd ae.ak ae.ay
open af ae
theorem BN (s : List UInt8) (w : World) (hw : XV w) (hs : s ≠ []) (hl : s.length <= 40000) :
  ∃ F : ae.Fr, (∀ x, af.nT s = some x -> F = ae.ak x) /\ ∀ w', BW w w' -> QC 56 #[.string (ah s)] w' (.tuple #[iI F, .bool (af.nT s).isSome]) := by
 obtain ⟨e1, e2⟩ := af.U1 (af.oV s).2
 have hsl : (af.oV s).2.length <= 40000 := by
  unfold af.oV
  split
  ·simp; omega
  ·split
   ·simp; omega
   ·exact hl
 have hgl := af.Nu (af.gW (af.oV s).2).1
 have hcl : (af.gW (af.oV s).2).1.length <= (af.oV s).2.length := by
  unfold af.gW
  split
  ·simp
  ·exact Nat.le_refl _
 have hsg := af.Gq s
 have hgl0 := af.Nu (af.oV s).2
 have hN : af.nT s = if (af.grp (af.gW (af.oV s).2).1).1 = [] then none else af.wJ ((af.oV s).1 ++ (af.grp (af.gW (af.oV s).2).1).1 ++ (af.grp (af.gW (af.oV s).2).1).2) (af.gW (af.oV s).2).2 := by
  rw [List.append_assoc]; rfl
 have G0 := fun (w' : World) => Io (af.oV s).2 w' (by omega)
 have U0 := fun (w' : World) => KH (af.grp (af.oV s).2).2 w' (by omega)
 rw [e1] at G0
 simp only [e2] at U0
 generalize (af.gW (af.oV s).2).2 = pc at *
 generalize (af.grp (af.oV s).2).2 = r at *
 generalize hx : (af.gW (af.oV s).2).1 = x at *
 generalize (af.grp x).1 = d at *
 generalize (af.grp x).2 = r2 at *
 obtain ⟨t, ht⟩ : ∃ t, t = (af.oV s).1 ++ d ++ r2 := ⟨_, rfl⟩
 have htl : t.length <= 100000 := by
  rw [ht]
  simp only [List.length_append]
  have : (af.oV s).1.length <= 1 := by rcases hsg with h | h <;> rw [h] <;> simp
  omega
 have P0 := fun (w' : World) (h : BW w w') => x9 t w' (hw.below h).xw (hw.below h).pos (by omega)
 have O0 := fun (w' : World) (h : BW w w') => xZ 100 w' (hw.below h).xw (by omega) (by omega)
 have hi : Lib.itoa 100 = Lib.decDigits 100 := rfl
 rw [hi] at O0
 have Iy : ae.nd 10 100 <= 300 := Nat.le_trans (ae.dX (n := 3) (by omega) (by decide)) (by omega)
 obtain ⟨k1, k2⟩ := ae.read_whole Iy
 obtain ⟨PF, YB⟩ : ∃ F : ae.Fr, F = if ae.jM t = 0 then ae.ak (ae.fA t) else ([], []) := ⟨_, rfl⟩
 obtain ⟨PE, ZU⟩ : ∃ E : Int, E = if ae.jM t = 0 then ae.ay (ae.fA t) else ae.jM t := ⟨_, rfl⟩
 have hPl : PF.1.length <= 301 /\ PF.2.length <= 300 := by
  rw [YB]
  split
  ·exact ae.dI _
  ·exact ⟨by simp, by simp⟩
 have V0 := fun (w' : World) (h : BW w w') => Ag PF (Lib.decDigits 100, [49]) w' (hw.below h).xw (hw.below h).pos (by omega) (by omega) (by dsimp only; have := ae.Fg Iy; omega) (by simp)
 rw [<- YB, <- ZU] at P0
 have hgood : PE = 0 ↔ ae.jM t = 0 /\ ae.ay (ae.fA t) = 0 := by
  rw [ZU]
  split
  ·rename_i h; simp [h]
  ·rename_i h; simp [h]
 have hQ : PE = 0 -> ae.oQ PF (Lib.decDigits 100, [49]) (ae.divN (ae.az PF) (ae.az (Lib.decDigits 100, [49]))) (ae.qx (ae.az (Lib.decDigits 100, [49]))) = ae.ak (ae.aG (ae.fA t) (-2)) /\ ae.qR PF (Lib.decDigits 100, [49]) (ae.divN (ae.az PF) (ae.az (Lib.decDigits 100, [49]))) (ae.qx (ae.az (Lib.decDigits 100, [49]))) = ae.ay (ae.aG (ae.fA t) (-2)) := fun h => by
  obtain ⟨g1, g2⟩ := hgood.1 h
  have hF : PF = ae.ak (ae.fA t) := by rw [YB, if_pos g1]
  obtain ⟨r1, r3, -⟩ := ae.qM (ae.vW t) g2
  rw [<- hF] at r1 r3
  have hb : ae.jF PF (Lib.decDigits 100, [49]) = 0 := by unfold ae.jF; rw [if_pos r1]; exact k1
  have hd := ae.div_eq r3 (n := 100) (by omega)
  have hz : ae.qx (⟨false, 100, 1⟩ : ae.Num) = 0 := rfl
  have hsc : ae.aG (ae.fA t) (-2) = ⟨(ae.fA t).m, (ae.fA t).n, (ae.fA t).d * 100⟩ := rfl
  rw [k2, hz]
  unfold ae.oQ ae.qR
  rw [if_pos hb, if_pos rfl, if_pos hb, if_pos rfl, hsc]
  exact ae.qN hd
 generalize ae.oQ PF (Lib.decDigits 100, [49]) (ae.divN (ae.az PF) (ae.az (Lib.decDigits 100, [49]))) (ae.qx (ae.az (Lib.decDigits 100, [49]))) = QF at *
 generalize ae.qR PF (Lib.decDigits 100, [49]) (ae.divN (ae.az PF) (ae.az (Lib.decDigits 100, [49]))) (ae.qx (ae.az (Lib.decDigits 100, [49]))) = QE at *
 rw [<- ht] at hN
 have hGn : af.wJ t pc = if PE = 0 then (if pc = true then (if QE = 0 then some (ae.aG (ae.fA t) (-2)) else none) else some (ae.fA t)) else none := by
  unfold af.wJ
  by_cases h : PE = 0
  ·obtain ⟨g1, g2⟩ := hgood.1 h
   rw [if_neg (by rw [g1, g2]; simp), if_pos h, (hQ h).2]
  ·rw [if_neg h, if_pos]
   rcases Decidable.em (ae.jM t = 0) with g | g
   ·exact .inr fun g2 => h (hgood.2 ⟨g, g2⟩)
   ·exact .inl g
 rw [hGn] at hN
 refine ⟨if d = [] then ([], []) else if PE = 0 /\ pc = true then QF else PF, ?_, fun w' hb => ?_⟩
 ·intro x hx
  rw [hN] at hx
  by_cases h0 : d = []
  ·rw [if_pos h0] at hx; cases hx
  ·rw [if_neg h0] at hx ⊢
   by_cases h1 : PE = 0
   ·rw [if_pos h1] at hx
    by_cases h2 : pc = true
    ·rw [if_pos h2] at hx
     rw [if_pos ⟨h1, h2⟩]
     split at hx
     ·cases hx; exact (hQ h1).1
     ·cases hx
    ·rw [if_neg h2] at hx
     rw [if_neg (fun h => h2 h.2)]
     cases hx
     rw [YB, if_pos (hgood.1 h1).1]
   ·rw [if_neg h1] at hx; cases hx
 ·obtain ⟨F, hF⟩ : ∃ F : ae.Fr, F = if d = [] then ([], []) else if PE = 0 /\ pc = true then QF else PF := ⟨_, rfl⟩
  obtain ⟨ok, hok⟩ : ∃ ok, ok = (af.nT s).isSome := ⟨_, rfl⟩
  rw [<- hF, <- hok]
  rw [hN] at hok
  have h1 : d = [] -> F = ([], []) /\ ok = false := fun h => by rw [hF, hok, if_pos h, if_pos h]; exact ⟨rfl, rfl⟩
  have h2 : d ≠ [] -> ¬ (PE = 0 /\ pc = true) -> F = PF /\ ok = decide (PE = 0) := fun h h' => by
   rw [hF, hok, if_neg h, if_neg h, if_neg h']
   refine ⟨rfl, ?_⟩
   by_cases hp : PE = 0
   ·rw [if_pos hp, if_neg (fun h => h' ⟨hp, h⟩), decide_eq_true hp]; rfl
   ·rw [if_neg hp, decide_eq_false hp]; rfl
  have h3 : d ≠ [] -> PE = 0 -> pc = true -> F = QF /\ ok = decide (QE = 0) := fun h h' h'' => by
   rw [hF, hok, if_neg h, if_neg h, if_pos ⟨h', h''⟩, if_pos h', if_pos h'']
   refine ⟨rfl, ?_⟩
   by_cases hp : QE = 0
   ·rw [if_pos hp, decide_eq_true hp]; rfl
   ·rw [if_neg hp, decide_eq_false hp]; rfl
  clear hN hGn hQ hgood ZU YB hF hok
  obtain ⟨F1, F2⟩ := F
  obtain ⟨Ua, Ub⟩ := PF
  obtain ⟨Um, Un⟩ := QF
  simp only [Prod.mk.injEq, and_assoc] at h1 h2 h3
  rw [ht] at P0
  cases s with
  | nil => exact absurd rfl hs
  | cons c q =>
    have G := fun (w'' : World) (_ : BW w' w'') => G0 w''
    have U := fun (w'' : World) (_ : BW w' w'') => U0 w''
    have P := fun (w'' : World) (h : BW w' w'') => P0 w'' (hb.trans (h.mono hb.size))
    have O := fun (w'' : World) (h : BW w' w'') => O0 w'' (hb.trans (h.mono hb.size))
    have V := fun (w'' : World) (h : BW w' w'') => V0 w'' (hb.trans (h.mono hb.size))
    have hdr : d.length + r2.length <= 40000 := by omega
    by_cases c1 : c = 43
    ·exact Jb c q _ _ d r r2 pc ok Ua Ub Um Un _ _ F1 F2 PE QE w' hl hdr G U P O V h1 h2 h3 c1 (by subst c1; exact ⟨rfl, rfl⟩)
    ·by_cases c2 : c = 45
     ·exact F6 c q _ _ d r r2 pc ok Ua Ub Um Un _ _ F1 F2 PE QE w' hl hdr G U P O V h1 h2 h3 c2 (by subst c2; exact ⟨rfl, rfl⟩)
     ·have e : af.oV (c :: q) = ([], c :: q) := by
       unfold af.oV
       rw [if_neg (by simpa using c1), if_neg (by simpa using c2)]
      exact Ja c q _ _ d r r2 pc ok Ua Ub Um Un _ _ F1 F2 PE QE w' hl hdr G U P O V h1 h2 h3 ⟨c1, c2⟩ (by rw [e]; exact ⟨rfl, rfl⟩)
end
end
end Go.Proofs.YtdkhkfdenlabaaaGreatDoor
