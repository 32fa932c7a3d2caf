/- Decimal numbers read: the program's run, exponent, ten. Fractions of the program: Neg, two, Add, Sub, Mul, Div, Comp Fractions of the program: Compare. The reference's numbers: common divisors. -/
import Derived.Test.YtdkhkfdenlabaaaGreatDoorLGG
import Derived.Test.YtdkhkfdenlabaaaGreatDoorLGD
import Derived.Test.YtdkhkfdenlabaaaGreatDoorLGL
import Derived.Test.YtdkhkfdenlabaaaGreatDoorLGK
set_option linter.unusedSimpArgs false
set_option linter.unusedVariables false
set_option maxRecDepth 100000
set_option maxHeartbeats 64000000
namespace Go.Proofs.YtdkhkfdenlabaaaGreatDoor
open Go.RowKit
open Sym
attribute [local irreducible] Calls Sym.AggEq ExP.nd ExP.dig ExP.upd
theorem trimLeft_any (s : List UInt8) (w : World) : QC 178 #[.string (bstr s), .string (bstr decS)] w (.string (bstr (ExP.runR s))) := by
 have hp : (fun c => decS.contains c) = ExP.digC := funext dec_contains
 have := Any.strings_TrimLeft_laid Tryz.lays161 (by kernel_rfl) (bstr s) (bstr decS) w (by decide) (ascii_of_all (by decide))
 refine this.mono ?_
 rintro e w' ⟨rfl, hb⟩
 refine ⟨?_, hb⟩
 have e1 : Lib.trimLeftS s decS = ExP.runR s := by unfold Lib.trimLeftS ExP.runR; rw [hp]
 show Ending.returned (Value.string (bstr (Lib.trimLeftS s decS))) = _
 rw [e1]
theorem run_any (s : List UInt8) (w : World) (hs : s.length ≤ 9223372036854775807) : QC 164 #[.string (bstr s)] w (.tuple #[.string (bstr (ExP.runD s)), .string (bstr (ExP.runR s))]) := by
 have HT := fun w => trimLeft_any s w
 have h1 := ExP.run_len s
 have h2 := ExP.run_take s
 generalize ExP.runR s = r at *
 refine yE Tryz.func164 rfl Tryz.results164 Tryz.ntmps164 [] [] [.str s] w ?_
 repeat' (first | refine yX ?_ | (apply And.intro <;> intro _) | apply bothI | refine retB fun β => ?_ | intro βe | refine yK (.str r) (fun β w hm => HT w) ?_ | ((with_reducible show ∃ _, _); first | (refine ⟨s.length - r.length, by omega, by omega, ?_⟩)) | exact trivial)
 all_goals first | (rw [h2]; rfl) | (simp [SV.den, SV.dens, h2]; done) | skip
theorem hasOne_any (s : List UInt8) (c : UInt8) (w : World) : QC 162 #[.string (bstr s), .string (bstr [c])] w (.bool (s.head? == some c)) := by
 refine (Tryz.strings_HasPrefix (bstr s) (bstr [c]) w).mono ?_
 rintro e w' ⟨h, rfl⟩
 refine ⟨?_, Below.refl _ _⟩
 rw [h, show (bstr s).data.toList = s from rfl, show (bstr [c]).data.toList = [c] from rfl]
 congr 2
 unfold Lib.hasPrefix
 cases s with
 | nil => rfl
 | cons d r =>
   by_cases h : d = c
   ·subst h; simp
   ·have h' : ¬ c = d := fun e => h e.symm
    simp [List.isPrefixOf, beq_eq_false_iff_ne.2 h, beq_eq_false_iff_ne.2 h']
theorem repeat48 (k : Nat) : Lib.repeatL [48] k = List.replicate k 48 := by
 induction k with
 | zero => rfl
 | succ k ih => rw [Lib.repeatL, ih]; rfl
theorem repeat_any (k : Nat) (w : World) (hk : k ≤ 1000000) : QC 202 #[.string (bstr [48]), .int .i64 (k : Int)] w (.string (bstr (List.replicate k 48))) := by
 rcases Nat.lt_or_ge k 2 with h | h
 ·have : k = 0 ∨ k = 1 := by omega
  rcases this with rfl | rfl
  ·exact (Tryz.strings_Repeat_zero (bstr [48]) w).mono fun e w' ⟨h1, h2⟩ => ⟨h1, by rw [h2]; exact Below.refl _ _⟩
  ·exact (Tryz.strings_Repeat_one (bstr [48]) w).mono fun e w' ⟨h1, h2⟩ => ⟨h1, by rw [h2]; exact Below.refl _ _⟩
 ·refine (Tryz.strings_Repeat_main (bstr [48]) k w h (by omega) (by rw [bstr_size]; simp; omega) (by rw [bstr_size]; simp)).mono ?_
  rintro e w' ⟨rfl, hb⟩
  refine ⟨?_, hb⟩
  show Ending.returned (Value.string (bstr (Lib.repeatL [48] k))) = _
  rw [repeat48]
theorem ten_any (k : Nat) (w : World) (hw0 : 0 < w.heap.size) (hk : k ≤ 500000) : Calls Tryz.prog 167 #[.int .i64 (k : Int)] w (NatOut .u32 1000000000 (10 ^ k) w) := by
 have HR := fun w => repeat_any k w (by omega)
 obtain ⟨hv, ha⟩ := ExP.ten_val k
 have HP := fun w => parse_any (49 :: List.replicate k 48) w (by simp; omega) ha
 rw [hv] at HP
 have hl : (List.replicate k (48 : UInt8)).length = k := by simp
 clear hv ha
 generalize List.replicate k (48 : UInt8) = z at *
 refine yE Tryz.func167 rfl Tryz.results167 Tryz.ntmps167 [] [] [.int .i64 (k : Int)] w ?_
 repeat' (first | refine yX ?_ | (apply And.intro <;> intro _) | apply bothI | refine retB fun β => ?_ | intro βe | refine yK (.str z) (fun β w hm => HR w) ?_ | (refine callNat .u32 1000000000 (10 ^ k) hw0 (by kernel_rfl) rfl (fun β w' hm => HP w') (fun a1 c1 q1 q2 q3 => ?_)) | exact trivial)
 all_goals first | (exfalso; omega) | skip
 all_goals refine ret fun β w' hm => ?_
 all_goals exact ⟨a1, c1, rfl, hm.slF 0 rfl, hm.freshF 0 rfl rfl, q1, q2, hm.below⟩
theorem exponent_any (s : List UInt8) (w : World) (hs : s.length ≤ 9223372036854775807) : QC 165 #[.string (bstr s)] w (.tuple #[.int .i64 (if ExP.expB s = true then ExP.expV s else 0), .bool (ExP.expB s)]) := by
 cases s with
 | nil =>
   refine yE Tryz.func165 rfl Tryz.results165 Tryz.ntmps165 [] [] [.str []] w ?_
   repeat' (first | refine yX ?_ | (apply And.intro <;> intro _) | apply bothI | refine retB fun β => ?_ | intro βe | exact trivial)
   all_goals first | rfl | (exfalso; simp_all; done)
 | cons c t =>
   have hB : ExP.expB (c :: t) = ((c == 101 || c == 69) && ExP.expOK (ExP.sgnR t)) := rfl
   have hV : ExP.expV (c :: t) = if ExP.sgnP t = true then -(ExP.valS (ExP.sgnR t) : Int) else (ExP.valS (ExP.sgnR t) : Int) := rfl
   have hc0 : ((c :: t : List UInt8).getD 0 0).toNat = c.toNat := rfl
   have hc8 := c.toNat_lt
   by_cases hc : c = 101 ∨ c = 69
   ·have hce : (c == 101 || c == 69) = true := by rcases hc with rfl | rfl <;> rfl
    have hcn : c.toNat = 101 ∨ c.toNat = 69 := by rcases hc with rfl | rfl <;> simp
    rw [hce, Bool.true_and] at hB
    rw [hB, hV]
    have hsP : ExP.sgnP t = (t.head? == some 45) := rfl
    have hsR : ExP.sgnR t = if t.head? = some 45 ∨ t.head? = some 43 then t.tail else t := rfl
    by_cases h45 : t.head? = some 45
    ·obtain ⟨u, rfl⟩ : ∃ u, t = 45 :: u := by
      cases t with
      | nil => cases h45
      | cons d u => simp at h45; subst h45; exact ⟨u, rfl⟩
     have e1 : ExP.sgnP (45 :: u) = true := rfl
     have e2 : ExP.sgnR (45 :: u) = u := rfl
     simp only [e1, e2, if_true]
     have HH1 := fun w => hasOne_any (45 :: u) 45 w
     have HH2 := fun w => hasOne_any (45 :: u) 43 w
     rw [show (((45 : UInt8) :: u).head? == some 45) = true from rfl] at HH1
     have RU := fun w => run_any u w (by simp only [List.length_cons] at hs; omega)
     by_cases hok : ExP.expOK u = true
     ·obtain ⟨o1, o2, o3, o4, o5⟩ := ExP.expOK_run hok
      have hv := ExP.val3 hok
      have AT := fun w => atoi_any u w o1 (by omega) o5
      rw [o2, o3] at RU
      rw [hok, if_pos rfl]
      generalize ExP.valS u = v at *
      refine yE Tryz.func165 rfl Tryz.results165 Tryz.ntmps165 [] [] [.str (c :: 45 :: u)] w ?_
      repeat' (first | refine yX ?_ | (apply And.intro <;> intro _) | apply bothI | refine retB fun β => ?_ | intro βe | refine yK (.lit true) (fun β w hm => HH1 w) ?_ | refine yK (.lit false) (fun β w hm => HH2 w) ?_ | refine yK (.tup [.str u, .str []]) (fun β w hm => RU w) ?_ | refine yK (.tup [.int .i64 (v : Nat), .any .nilIface]) (fun β w hm => AT w) ?_ | ((with_reducible show ∃ _, _); first | (refine ⟨0, rfl, by simp, ?_⟩) | (refine ⟨1, rfl, by simp, ?_⟩)) | exact trivial)
      all_goals first | rfl | (exfalso; omega) | (exfalso; simp_all; done) | (simp [SV.den, SV.dens]; done)
     ·have hno := ExP.expOK_not (Bool.eq_false_iff.2 hok)
      rw [Bool.eq_false_iff.2 hok, if_neg (by decide)]
      generalize ExP.runD u = d at *
      generalize ExP.runR u = r at *
      refine yE Tryz.func165 rfl Tryz.results165 Tryz.ntmps165 [] [] [.str (c :: 45 :: u)] w ?_
      repeat' (first | refine yX ?_ | (apply And.intro <;> intro _) | apply bothI | refine retB fun β => ?_ | intro βe | refine yK (.lit true) (fun β w hm => HH1 w) ?_ | refine yK (.lit false) (fun β w hm => HH2 w) ?_ | refine yK (.tup [.str d, .str r]) (fun β w hm => RU w) ?_ | ((with_reducible show ∃ _, _); first | (refine ⟨0, rfl, by simp, ?_⟩) | (refine ⟨1, rfl, by simp, ?_⟩)) | exact trivial)
      all_goals first | rfl | (exfalso; omega) | (exfalso; rcases hno with h | h | h <;> first | omega | contradiction | (exact h (by assumption))) | (exfalso; simp_all; done)
    by_cases h43 : t.head? = some 43
    ·obtain ⟨u, rfl⟩ : ∃ u, t = 43 :: u := by
      cases t with
      | nil => cases h43
      | cons d u => simp at h43; subst h43; exact ⟨u, rfl⟩
     have e1 : ExP.sgnP (43 :: u) = false := rfl
     have e2 : ExP.sgnR (43 :: u) = u := rfl
     simp only [e1, e2, Bool.false_eq_true, if_false]
     have HH1 := fun w => hasOne_any (43 :: u) 45 w
     have HH2 := fun w => hasOne_any (43 :: u) 43 w
     rw [show (((43 : UInt8) :: u).head? == some 45) = false from rfl] at HH1
     rw [show (((43 : UInt8) :: u).head? == some 43) = true from rfl] at HH2
     have RU := fun w => run_any u w (by simp only [List.length_cons] at hs; omega)
     by_cases hok : ExP.expOK u = true
     ·obtain ⟨o1, o2, o3, o4, o5⟩ := ExP.expOK_run hok
      have hv := ExP.val3 hok
      have AT := fun w => atoi_any u w o1 (by omega) o5
      rw [o2, o3] at RU
      rw [hok, if_pos rfl]
      generalize ExP.valS u = v at *
      refine yE Tryz.func165 rfl Tryz.results165 Tryz.ntmps165 [] [] [.str (c :: 43 :: u)] w ?_
      repeat' (first | refine yX ?_ | (apply And.intro <;> intro _) | apply bothI | refine retB fun β => ?_ | intro βe | refine yK (.lit false) (fun β w hm => HH1 w) ?_ | refine yK (.lit true) (fun β w hm => HH2 w) ?_ | refine yK (.tup [.str u, .str []]) (fun β w hm => RU w) ?_ | refine yK (.tup [.int .i64 (v : Nat), .any .nilIface]) (fun β w hm => AT w) ?_ | ((with_reducible show ∃ _, _); first | (refine ⟨0, rfl, by simp, ?_⟩) | (refine ⟨1, rfl, by simp, ?_⟩)) | exact trivial)
      all_goals first | rfl | (exfalso; omega) | (exfalso; simp_all; done) | (simp [SV.den, SV.dens]; done)
     ·have hno := ExP.expOK_not (Bool.eq_false_iff.2 hok)
      rw [Bool.eq_false_iff.2 hok, if_neg (by decide)]
      generalize ExP.runD u = d at *
      generalize ExP.runR u = r at *
      refine yE Tryz.func165 rfl Tryz.results165 Tryz.ntmps165 [] [] [.str (c :: 43 :: u)] w ?_
      repeat' (first | refine yX ?_ | (apply And.intro <;> intro _) | apply bothI | refine retB fun β => ?_ | intro βe | refine yK (.lit false) (fun β w hm => HH1 w) ?_ | refine yK (.lit true) (fun β w hm => HH2 w) ?_ | refine yK (.tup [.str d, .str r]) (fun β w hm => RU w) ?_ | ((with_reducible show ∃ _, _); first | (refine ⟨0, rfl, by simp, ?_⟩) | (refine ⟨1, rfl, by simp, ?_⟩)) | exact trivial)
      all_goals first | rfl | (exfalso; omega) | (exfalso; rcases hno with h | h | h <;> first | omega | contradiction | (exact h (by assumption))) | (exfalso; simp_all; done)
    ·have e1 : ExP.sgnP t = false := by rw [hsP]; exact beq_eq_false_iff_ne.2 h45
     have e2 : ExP.sgnR t = t := by rw [hsR, if_neg (by simp [h45, h43])]
     simp only [e1, e2, Bool.false_eq_true, if_false]
     have HH1 := fun w => hasOne_any (t) 45 w
     have HH2 := fun w => hasOne_any (t) 43 w
     rw [beq_eq_false_iff_ne.2 h45] at HH1
     rw [beq_eq_false_iff_ne.2 h43] at HH2
     have RU := fun w => run_any t w (by simp only [List.length_cons] at hs; omega)
     by_cases hok : ExP.expOK t = true
     ·obtain ⟨o1, o2, o3, o4, o5⟩ := ExP.expOK_run hok
      have hv := ExP.val3 hok
      have AT := fun w => atoi_any t w o1 (by omega) o5
      rw [o2, o3] at RU
      rw [hok, if_pos rfl]
      generalize ExP.valS t = v at *
      refine yE Tryz.func165 rfl Tryz.results165 Tryz.ntmps165 [] [] [.str (c :: t)] w ?_
      repeat' (first | refine yX ?_ | (apply And.intro <;> intro _) | apply bothI | refine retB fun β => ?_ | intro βe | refine yK (.lit false) (fun β w hm => HH1 w) ?_ | refine yK (.lit false) (fun β w hm => HH2 w) ?_ | refine yK (.tup [.str t, .str []]) (fun β w hm => RU w) ?_ | refine yK (.tup [.int .i64 (v : Nat), .any .nilIface]) (fun β w hm => AT w) ?_ | ((with_reducible show ∃ _, _); first | (refine ⟨0, rfl, by simp, ?_⟩) | (refine ⟨1, rfl, by simp, ?_⟩)) | exact trivial)
      all_goals first | rfl | (exfalso; omega) | (exfalso; simp_all; done) | (simp [SV.den, SV.dens]; done)
     ·have hno := ExP.expOK_not (Bool.eq_false_iff.2 hok)
      rw [Bool.eq_false_iff.2 hok, if_neg (by decide)]
      generalize ExP.runD t = d at *
      generalize ExP.runR t = r at *
      refine yE Tryz.func165 rfl Tryz.results165 Tryz.ntmps165 [] [] [.str (c :: t)] w ?_
      repeat' (first | refine yX ?_ | (apply And.intro <;> intro _) | apply bothI | refine retB fun β => ?_ | intro βe | refine yK (.lit false) (fun β w hm => HH1 w) ?_ | refine yK (.lit false) (fun β w hm => HH2 w) ?_ | refine yK (.tup [.str d, .str r]) (fun β w hm => RU w) ?_ | ((with_reducible show ∃ _, _); first | (refine ⟨0, rfl, by simp, ?_⟩) | (refine ⟨1, rfl, by simp, ?_⟩)) | exact trivial)
      all_goals first | rfl | (exfalso; omega) | (exfalso; rcases hno with h | h | h <;> first | omega | contradiction | (exact h (by assumption))) | (exfalso; simp_all; done)
   ·have hce : (c == 101 || c == 69) = false := by
     simp only [not_or] at hc
     simp [hc.1, hc.2]
    have hcn : c.toNat ≠ 101 ∧ c.toNat ≠ 69 := ⟨fun e => hc (.inl (UInt8.toNat_inj.1 e)), fun e => hc (.inr (UInt8.toNat_inj.1 e))⟩
    rw [hce, Bool.false_and] at hB
    rw [hB]
    refine yE Tryz.func165 rfl Tryz.results165 Tryz.ntmps165 [] [] [.str (c :: t)] w ?_
    repeat' (first | refine yX ?_ | (apply And.intro <;> intro _) | apply bothI | refine retB fun β => ?_ | intro βe | ((with_reducible show ∃ _, _); first | (refine ⟨0, rfl, by simp, ?_⟩)) | exact trivial)
    all_goals first | rfl | (exfalso; omega) | (exfalso; simp_all; done)
theorem ExP.readV_ok {f : ExP.Fr} (h : ExP.readE f = 0) : ExP.readV f = ExP.readN f := if_pos h
theorem ExP.read_nd {f : ExP.Fr} (h : ExP.readE f = 0) {b : Nat} (hb : 10 ≤ b) : ExP.nd b (ExP.readN f).n ≤ 300 ∧ ExP.nd b (ExP.readN f).d ≤ 300 ∧ 0 < (ExP.readN f).d := by
 obtain ⟨h1, h2, h3, h4, h5, h6, h7⟩ := ExP.read_ok h
 exact ⟨Nat.le_trans (ExP.nd_val hb (ExP.digits_ne h1).2) h4, Nat.le_trans (ExP.nd_val hb (ExP.digits_ne h2).2) h5, h7⟩
theorem ExP.both_ok {f g : ExP.Fr} (h : ExP.bothE f g = 0) : ExP.readE f = 0 ∧ ExP.readE g = 0 := by
 unfold ExP.bothE at h
 split at h
 ·exact ⟨by assumption, h⟩
 ·exact absurd h (by assumption)
theorem FrIn.of {k : IntKind} {b : Nat} {m : Bool} {n d : Nat} {a a2 : Option Addr} {c c2 : Nat} {w : World} (h1 : SlAt a (nv k b n) w) (h2 : SlAt a2 (nv k b d) w) (h3 : FrCap b ⟨m, n, d, a, c, a2, c2⟩) : FrIn k b ⟨m, n, d, a, c, a2, c2⟩ w := ⟨h1, h2, h3⟩
def ExP.oneF (f : ExP.Fr) (N : ExP.Num) : ExP.Fr := if ExP.readE f = 0 then ExP.writeF N else ([], [])
def ExP.oneE (f : ExP.Fr) (N : ExP.Num) : Int := if ExP.readE f = 0 then ExP.writeE N else ExP.readE f
theorem neg_any (f : ExP.Fr) (w : World) (hw : XW w) (hw0 : 0 < w.heap.size) (h1 : f.1.length ≤ 9223372036854775807) (h2 : f.2.length ≤ 9223372036854775807) :
  Calls Tryz.prog 116 #[frV f] w (WrOut (ExP.oneF f (ExP.negN (ExP.readN f))) (ExP.oneE f (ExP.negN (ExP.readN f))) w) := by
 have R1 := fun (w' : World) (h : BW w w') => read_any f w' (Nat.lt_of_lt_of_le hw0 h.size) h1 h2
 by_cases hE : ExP.readE f = 0
 ·obtain ⟨q1, q2, q3⟩ := ExP.read_nd hE (b := 1000000000) (by omega)
  have hV := ExP.readV_ok hE
  rw [ExP.oneF, ExP.oneE, if_pos hE, if_pos hE]
  rw [hE, hV] at R1
  have W1 := fun (x : FrV) (w' : World) (h : BW w w') => write_any x w' (hw.below h) (Nat.lt_of_lt_of_le hw0 h.size)
  generalize ExP.readN f = V at *
  obtain ⟨m, n, d⟩ := V
  dsimp only [ExP.negN] at *
  obtain ⟨f1, f2⟩ := f
  refine yE Tryz.func116 rfl Tryz.results116 Tryz.ntmps116 [] [] [.agg [.str f1, .str f2]] w ?_
  repeat' (first | refine yX ?_ | (apply And.intro <;> intro _) | apply bothI | refine retB fun β => ?_ | intro βe | (refine callFrE .u32 1000000000 ⟨m, n, d⟩ 0 hw0 (by kernel_rfl) rfl (fun β w' hm => R1 w' hm.below) (fun a1 c1 a2 c2 hcap => ?_)) | refine yK (.tup [.agg [.str (ExP.writeF ⟨!m, n, d⟩).1, .str (ExP.writeF ⟨!m, n, d⟩).2], .int .i64 (ExP.writeE ⟨!m, n, d⟩)]) (fun β w hm => W1 ⟨!m, n, d, a1, c1, a2, c2⟩ w hm.below (FrIn.of (hm.slF 2 rfl) (hm.slF 3 rfl) ⟨hcap.an, hcap.bn, hcap.cn, hcap.cd⟩) q3 (by dsimp only; omega) (by dsimp only; omega)) ?_ | exact trivial)
  all_goals rfl
 ·have hB := ExP.readV_bad rfl hE
  rw [ExP.oneF, ExP.oneE, if_neg hE, if_neg hE]
  rw [hB] at R1
  generalize ExP.readE f = E at *
  obtain ⟨f1, f2⟩ := f
  refine yE Tryz.func116 rfl Tryz.results116 Tryz.ntmps116 [] [] [.agg [.str f1, .str f2]] w ?_
  repeat' (first | refine yX ?_ | (apply And.intro <;> intro _) | apply bothI | refine retB fun β => ?_ | intro βe | (refine callFrE .u32 1000000000 ⟨false, 0, 0⟩ E hw0 (by kernel_rfl) rfl (fun β w' hm => R1 w' hm.below) (fun a1 c1 a2 c2 hcap => ?_)) | exact trivial)
  all_goals first | rfl | (exfalso; simp_all; done)
def ExP.twoF (f g : ExP.Fr) (N : ExP.Num) (e : Int) : ExP.Fr := if ExP.bothE f g = 0 then (if e = 0 then ExP.writeF N else ([], [])) else ([], [])
def ExP.twoE (f g : ExP.Fr) (N : ExP.Num) (e : Int) : Int := if ExP.bothE f g = 0 then (if e = 0 then ExP.writeE N else e) else ExP.bothE f g
theorem two_any (fid : FuncId) (hf : entersB Tryz.prog fid = true) (f g : ExP.Fr) (N : ExP.Num) (e : Int) (w : World) (hw : XW w) (hw0 : 0 < w.heap.size) (h1 : f.1.length ≤ 9223372036854775807) (h2 : f.2.length ≤ 9223372036854775807) (h3 : g.1.length ≤ 9223372036854775807) (h4 : g.2.length ≤ 9223372036854775807)
  (HF : ExP.bothE f g = 0 → ∀ (x y : FrV) (w' : World), 0 < w'.heap.size → FrIn .u32 1000000000 x w' → FrIn .u32 1000000000 y w' → x.num = ExP.readN f → y.num = ExP.readN g → Calls Tryz.prog fid #[x.val 1000000000, y.val 1000000000] w' (FrOutE .u32 1000000000 N e w'))
  (HN : ExP.bothE f g = 0 → e = 0 → 0 < N.d ∧ ExP.nd 1000000000 N.n ≤ 1000000 ∧ ExP.nd 1000000000 N.d ≤ 1000000) :
  Calls Tryz.prog 170 #[frV f, frV g, .func (.func fid) #[] #[]] w (WrOut (ExP.twoF f g N e) (ExP.twoE f g N e) w) := by
 have R1 := fun (w' : World) (h : BW w w') => both_any f g w' (Nat.lt_of_lt_of_le hw0 h.size) h1 h2 h3 h4
 by_cases hE : ExP.bothE f g = 0
 ·obtain ⟨hE1, hE2⟩ := ExP.both_ok hE
  have hV := ExP.readV_ok hE1
  have hY : ExP.bothY f g = ExP.readN g := by rw [ExP.bothY, if_pos hE1, ExP.readV_ok hE2]
  replace HF := HF hE
  replace HN := HN hE
  rw [ExP.twoF, ExP.twoE, if_pos hE, if_pos hE]
  rw [hE, hV, hY] at R1
  have W1 := fun (x : FrV) (w' : World) (h : BW w w') => write_any x w' (hw.below h) (Nat.lt_of_lt_of_le hw0 h.size)
  have HF' := fun (x y : FrV) (w' : World) (h : BW w w') => HF x y w' (Nat.lt_of_lt_of_le hw0 h.size)
  clear HF
  generalize ExP.readN f = V at *
  generalize ExP.readN g = Y at *
  obtain ⟨m, n, d⟩ := V
  obtain ⟨m', n', d'⟩ := Y
  obtain ⟨M, P, D⟩ := N
  dsimp only at *
  obtain ⟨f1, f2⟩ := f
  obtain ⟨g1, g2⟩ := g
  refine yE Tryz.func170 rfl Tryz.results170 Tryz.ntmps170 [] [200004] [.agg [.str f1, .str f2], .agg [.str g1, .str g2], .fn fid []] w ?_
  repeat' (first | refine yX ?_ | (apply And.intro <;> intro _) | apply bothI | refine retB fun β => ?_ | intro βe | (refine callFrEE .u32 1000000000 ⟨m, n, d⟩ ⟨m', n', d'⟩ 0 hw0 (by kernel_rfl) rfl (fun β w' hm => R1 w' hm.below) (fun a1 c1 a2 c2 b1 e1 b2 e2 hcap hcap2 => ?_)) | (refine callFrE .u32 1000000000 ⟨M, P, D⟩ e hw0 hf rfl (fun β w' hm => HF' ⟨m, n, d, a1, c1, a2, c2⟩ ⟨m', n', d', b1, e1, b2, e2⟩ w' hm.below (FrIn.of (hm.slF 3 rfl) (hm.slF 4 rfl) hcap) (FrIn.of (hm.slF 5 rfl) (hm.slF 6 rfl) hcap2) rfl rfl) (fun a3 c3 a4 c4 hcap3 => ?_)) | refine yK (.tup [.agg [.str (ExP.writeF ⟨M, P, D⟩).1, .str (ExP.writeF ⟨M, P, D⟩).2], .int .i64 (ExP.writeE ⟨M, P, D⟩)]) (fun β w hm => W1 ⟨M, P, D, a3, c3, a4, c4⟩ w hm.below (FrIn.of (hm.slF 9 rfl) (hm.slF 10 rfl) hcap3) (HN (Decidable.not_not.1 (by assumption))).1 (HN (Decidable.not_not.1 (by assumption))).2.1 (HN (Decidable.not_not.1 (by assumption))).2.2) ?_ | exact trivial)
  all_goals first | (exfalso; simp_all; done) | skip
  ·rename_i h0
   rw [if_neg h0, if_neg h0]; rfl
  ·rename_i h0
   simp only [Decidable.not_not] at h0
   rw [if_pos h0, if_pos h0]; rfl
 ·rw [ExP.twoF, ExP.twoE, if_neg hE, if_neg hE]
  generalize ExP.bothE f g = E at *
  generalize ExP.readV f = V at *
  generalize ExP.bothY f g = Y at *
  obtain ⟨m, n, d⟩ := V
  obtain ⟨m', n', d'⟩ := Y
  obtain ⟨f1, f2⟩ := f
  obtain ⟨g1, g2⟩ := g
  refine yE Tryz.func170 rfl Tryz.results170 Tryz.ntmps170 [] [200004] [.agg [.str f1, .str f2], .agg [.str g1, .str g2], .fn fid []] w ?_
  repeat' (first | refine yX ?_ | (apply And.intro <;> intro _) | apply bothI | refine retB fun β => ?_ | intro βe | (refine callFrEE .u32 1000000000 ⟨m, n, d⟩ ⟨m', n', d'⟩ E hw0 (by kernel_rfl) rfl (fun β w' hm => R1 w' hm.below) (fun a1 c1 a2 c2 b1 e1 b2 e2 hcap hcap2 => ?_)) | exact trivial)
  all_goals first | rfl | (exfalso; simp_all; done)
theorem ExP.sum_nd {b : Nat} (hb : 2 ≤ b) {x y : ExP.Num} {k : Nat} (h1 : ExP.nd b x.n ≤ k) (h2 : ExP.nd b x.d ≤ k) (h3 : ExP.nd b y.n ≤ k) (h4 : ExP.nd b y.d ≤ k) (h5 : 0 < x.d) (h6 : 0 < y.d) :
  0 < (ExP.sumN x y).d ∧ ExP.nd b (ExP.sumN x y).n ≤ 2 * k + 1 ∧ ExP.nd b (ExP.sumN x y).d ≤ 2 * k + 1 := by
 have e1 := ExP.nd_mul (b := b) (x := x.n) (y := y.d) hb
 have e2 := ExP.nd_mul (b := b) (x := y.n) (y := x.d) hb
 have e3 := ExP.nd_mul (b := b) (x := x.d) (y := y.d) hb
 have hp : 0 < x.d * y.d := Nat.mul_pos h5 h6
 have hs : ExP.nd b (x.n * y.d + y.n * x.d) ≤ 2 * k + 1 := by
  refine ExP.nd_le hb ?_
  have a1 := ExP.lt_pow_mono (by omega) (ExP.nd_lt hb (x.n * y.d)) (by omega : _ ≤ 2 * k)
  have a2 := ExP.lt_pow_mono (by omega) (ExP.nd_lt hb (y.n * x.d)) (by omega : _ ≤ 2 * k)
  have : b ^ (2 * k) * 2 ≤ b ^ (2 * k) * b := Nat.mul_le_mul_left _ hb
  rw [Nat.pow_succ]
  omega
 have m1 := ExP.nd_mono hb (Nat.sub_le (x.n * y.d) (y.n * x.d))
 have m2 := ExP.nd_mono hb (Nat.sub_le (y.n * x.d) (x.n * y.d))
 unfold ExP.sumN
 split
 ·exact ⟨hp, hs, by dsimp only; omega⟩
 split
 ·exact ⟨hp, by dsimp only; omega, by dsimp only; omega⟩
 ·exact ⟨hp, by dsimp only; omega, by dsimp only; omega⟩
theorem ExP.mul_nd {b : Nat} (hb : 2 ≤ b) {x y : ExP.Num} {k : Nat} (h1 : ExP.nd b x.n ≤ k) (h2 : ExP.nd b x.d ≤ k) (h3 : ExP.nd b y.n ≤ k) (h4 : ExP.nd b y.d ≤ k) (h5 : 0 < x.d) (h6 : 0 < y.d) :
  0 < (ExP.mulN x y).d ∧ ExP.nd b (ExP.mulN x y).n ≤ 2 * k + 1 ∧ ExP.nd b (ExP.mulN x y).d ≤ 2 * k + 1 := by
 have e1 := ExP.nd_mul (b := b) (x := x.n) (y := y.n) hb
 have e3 := ExP.nd_mul (b := b) (x := x.d) (y := y.d) hb
 exact ⟨Nat.mul_pos h5 h6, by dsimp only [ExP.mulN]; omega, by dsimp only [ExP.mulN]; omega⟩
theorem ExP.le_of {p : Prop} {a b : Nat} (h : p ∧ a ≤ 2 * 300 + 1 ∧ b ≤ 2 * 300 + 1) : p ∧ a ≤ 1000000 ∧ b ≤ 1000000 := ⟨h.1, by omega, by omega⟩
theorem add_any (f g : ExP.Fr) (w : World) (hw : XW w) (hw0 : 0 < w.heap.size) (h1 : f.1.length ≤ 9223372036854775807) (h2 : f.2.length ≤ 9223372036854775807) (h3 : g.1.length ≤ 9223372036854775807) (h4 : g.2.length ≤ 9223372036854775807) :
  Calls Tryz.prog 115 #[frV f, frV g] w (WrOut (ExP.twoF f g (ExP.sumN (ExP.readN f) (ExP.readN g)) (0)) (ExP.twoE f g (ExP.sumN (ExP.readN f) (ExP.readN g)) (0)) w) := by
 have HT := fun (w' : World) (h : BW w w') => two_any 174 (by kernel_rfl) f g (ExP.sumN (ExP.readN f) (ExP.readN g)) (0) w' (hw.below h) (Nat.lt_of_lt_of_le hw0 h.size) h1 h2 h3 h4 (fun hE x y w' hw0 hx hy ex ey => by
   obtain ⟨hE1, hE2⟩ := ExP.both_ok hE
   obtain ⟨q1, q2, q3⟩ := ExP.read_nd hE1 (b := 1000000000) (by omega)
   obtain ⟨q4, q5, q6⟩ := ExP.read_nd hE2 (b := 1000000000) (by omega)
   rw [← ex] at q1 q2 q3
   rw [← ey] at q4 q5 q6
   rw [← ex, ← ey]
   exact add1_any x y w' hw0 hx hy (by simp only [FrV.num] at q1; omega) (by simp only [FrV.num] at q2; omega) (by simp only [FrV.num] at q4; omega) (by simp only [FrV.num] at q5; omega)) (fun hE he => by
   obtain ⟨hE1, hE2⟩ := ExP.both_ok hE
   obtain ⟨q1, q2, q3⟩ := ExP.read_nd hE1 (b := 1000000000) (by omega)
   obtain ⟨q4, q5, q6⟩ := ExP.read_nd hE2 (b := 1000000000) (by omega)
   exact ExP.le_of (ExP.sum_nd (by omega) q1 q2 q4 q5 q3 q6))
 generalize ExP.twoF f g (ExP.sumN (ExP.readN f) (ExP.readN g)) (0) = F at *
 generalize ExP.twoE f g (ExP.sumN (ExP.readN f) (ExP.readN g)) (0) = E at *
 obtain ⟨F1, F2⟩ := F
 obtain ⟨f1, f2⟩ := f
 obtain ⟨g1, g2⟩ := g
 refine yE Tryz.func115 rfl Tryz.results115 Tryz.ntmps115 [] [] [.agg [.str f1, .str f2], .agg [.str g1, .str g2]] w ?_
 repeat' (first | refine yX ?_ | (apply And.intro <;> intro _) | apply bothI | refine retB fun β => ?_ | intro βe | refine yK (.tup [.agg [.str F1, .str F2], .int .i64 E]) (fun β w hm => HT w hm.below) ?_ | exact trivial)
 all_goals rfl
def ExP.divN (x y : ExP.Num) : ExP.Num := if y.n = 0 then ⟨false, 0, 0⟩ else ExP.mulN x (ExP.invN y)
def ExP.divE (y : ExP.Num) : Int := if y.n = 0 then 1 else 0
theorem div_any (f g : ExP.Fr) (w : World) (hw : XW w) (hw0 : 0 < w.heap.size) (h1 : f.1.length ≤ 9223372036854775807) (h2 : f.2.length ≤ 9223372036854775807) (h3 : g.1.length ≤ 9223372036854775807) (h4 : g.2.length ≤ 9223372036854775807) :
  Calls Tryz.prog 112 #[frV f, frV g] w (WrOut (ExP.twoF f g (ExP.divN (ExP.readN f) (ExP.readN g)) (ExP.divE (ExP.readN g))) (ExP.twoE f g (ExP.divN (ExP.readN f) (ExP.readN g)) (ExP.divE (ExP.readN g))) w) := by
 have HT := fun (w' : World) (h : BW w w') => two_any 171 (by kernel_rfl) f g (ExP.divN (ExP.readN f) (ExP.readN g)) (ExP.divE (ExP.readN g)) w' (hw.below h) (Nat.lt_of_lt_of_le hw0 h.size) h1 h2 h3 h4 (fun hE x y w' hw0 hx hy ex ey => by
   obtain ⟨hE1, hE2⟩ := ExP.both_ok hE
   obtain ⟨q1, q2, q3⟩ := ExP.read_nd hE1 (b := 1000000000) (by omega)
   obtain ⟨q4, q5, q6⟩ := ExP.read_nd hE2 (b := 1000000000) (by omega)
   rw [← ex] at q1 q2 q3
   rw [← ey] at q4 q5 q6
   rw [← ex, ← ey]
   by_cases h0 : y.num.n = 0
   ·rw [ExP.divN, ExP.divE, if_pos h0, if_pos h0]
    exact div1_zero x y w' hw0 hx hy h0 (by simp only [FrV.num] at q1; omega) (by simp only [FrV.num] at q2; omega) (by simp only [FrV.num] at q4; omega) (by simp only [FrV.num] at q5; omega)
   ·rw [ExP.divN, ExP.divE, if_neg h0, if_neg h0]
    exact div1_any x y w' hw0 hx hy h0 (by simp only [FrV.num] at q1; omega) (by simp only [FrV.num] at q2; omega) (by simp only [FrV.num] at q4; omega) (by simp only [FrV.num] at q5; omega)) (fun hE he => by
   obtain ⟨hE1, hE2⟩ := ExP.both_ok hE
   obtain ⟨q1, q2, q3⟩ := ExP.read_nd hE1 (b := 1000000000) (by omega)
   obtain ⟨q4, q5, q6⟩ := ExP.read_nd hE2 (b := 1000000000) (by omega)
   exact by
    unfold ExP.divE at he
    split at he
    ·cases he
    rename_i h0
    rw [ExP.divN, if_neg h0]
    exact ExP.le_of (ExP.mul_nd (by omega) q1 q2 q5 q4 q3 (Nat.pos_of_ne_zero h0)))
 generalize ExP.twoF f g (ExP.divN (ExP.readN f) (ExP.readN g)) (ExP.divE (ExP.readN g)) = F at *
 generalize ExP.twoE f g (ExP.divN (ExP.readN f) (ExP.readN g)) (ExP.divE (ExP.readN g)) = E at *
 obtain ⟨F1, F2⟩ := F
 obtain ⟨f1, f2⟩ := f
 obtain ⟨g1, g2⟩ := g
 refine yE Tryz.func112 rfl Tryz.results112 Tryz.ntmps112 [] [] [.agg [.str f1, .str f2], .agg [.str g1, .str g2]] w ?_
 repeat' (first | refine yX ?_ | (apply And.intro <;> intro _) | apply bothI | refine retB fun β => ?_ | intro βe | refine yK (.tup [.agg [.str F1, .str F2], .int .i64 E]) (fun β w hm => HT w hm.below) ?_ | exact trivial)
 all_goals rfl
def ExP.sgn (x : ExP.Num) : Int := if x.n = 0 then 0 else if x.m = true then -1 else 1
theorem Sym.x_loadP {C : Ctx} {G : Blobs} {x : Operand} {t : TypeId} {a : Addr} {j : Nat} {xs : List Value} (i : Nat) (v : SV) {Φ : Nat → Option Obj → Prop} (hag : ∀ w, (isAgg t).run C.P w = .ok false w) (ri : G i = some Φ) (hΦ : ∀ b o, Φ b o → SlB (some a) xs b o) (hv : ∀ β, xs[j]? = some (v.den β)) :
  ExtN C G (.load t x) [.any (.pointer (some (a.add j)))] v := by
 unfold ExtN
 intro ρ β w dst ty pos after gd _ hG h
 have e1 : ρ x = .pointer (some (a.add j)) := by simpa [opsX, SV.dens, SV.den] using h
 obtain ⟨h1, h2⟩ := hG i _ ri
 obtain ⟨ad, e, _, hc⟩ := hΦ _ _ h2 w rfl j _ (hv β)
 cases e
 simp [execOp, Instr.loadAt, Instr.sureAddr, e1, loadVar, hag, hc]
theorem Sym.Mem.slL {base : Nat} {w0 : Base} {rows : List (Nat × Bool × SRow)} {nx : Nat} {β : Nat → Nat} {w : World} (hm : Mem base w0 rows nx β w) (j : Nat) {o : Bool} {bs : Nat} {L : List (Option Addr)} {a : Option Addr} {xs : List Value} (hj : get rows j = some (o, .blob (SlL bs L a xs))) : SlAt a xs w :=
 (hm.row j _ _ hj).1.2.1.at (hm.row j _ _ hj).1.1
theorem ExP.cmpS_lt {x y : Nat} : ExP.cmpS x y < 0 ↔ x < y := by
 unfold ExP.cmpS
 split
 ·constructor <;> intro h <;> omega
 ·split <;> constructor <;> intro h <;> omega
theorem ExP.two_log {x n k : Nat} (h : x < 10 ^ n) (h2 : 2 ^ k ≤ x) : k ≤ 4 * n := by
 have h3 : (10 : Nat) ^ n ≤ 16 ^ n := Nat.pow_le_pow_left (by omega) n
 have h4 : (16 : Nat) ^ n = 2 ^ (4 * n) := by rw [Nat.pow_mul]
 rcases Nat.lt_or_ge (4 * n) k with h5 | h5
 ·have := Nat.pow_lt_pow_right (show 1 < 2 by omega) h5
  omega
 ·exact h5
theorem ExP.dig0 (x : Nat) : ExP.dig 10 0 x = x % 10 := by simp [ExP.dig]
abbrev gJ (base : Nat) (L : List (Option Addr)) (tw : Nat) (t : CmT) : St := ⟨[(0, .any (.slice t.a (ExP.nd 10 t.u) t.c)), (1, .any (.slice t.b (ExP.nd 10 t.v) t.d)), (5, .int .i64 (tw : Nat))], [(0, false, .blob (SlL base L t.a (nv .i64 10 t.u))), (1, false, .blob (SlL base L t.b (nv .i64 10 t.v)))], 2, 71⟩
structure GcI (M : Nat) (t : CmT) : Prop where
 hu : t.u ≤ M
 hv : t.v ≤ M
 ha : t.a = none → t.c = 0
 hc : ExP.nd 10 t.u ≤ t.c
 hb : t.b = none → t.d = 0
 hd : ExP.nd 10 t.v ≤ t.d
theorem rgcd_any (L : List (Option Addr)) (a b : Option Addr) (ca cb x y : Nat) (w : World) (hw0 : 0 < w.heap.size) (hx : ExP.nd 10 x ≤ 10000000) (hy : ExP.nd 10 y ≤ 10000000) (ha : a = none → ca = 0) (hca : ExP.nd 10 x ≤ ca) (hb : b = none → cb = 0) (hcb : ExP.nd 10 y ≤ cb) (hLa : 0 < x → a ∈ L) (hLb : 0 < y → b ∈ L) (hs : SlAt a (nv .i64 10 x) w) (ht : SlAt b (nv .i64 10 y) w) :
  Calls Tryz.prog 137 #[.slice a (ExP.nd 10 x) ca, .slice b (ExP.nd 10 y) cb] w (NatAny L .i64 10 (Nat.gcd x y) w) := by
 have hposn : ∀ z, 0 < z → 0 < ExP.nd 10 z := fun z h => (ExP.nd_pos (by omega)).2 h
 refine yE Tryz.func137 rfl Tryz.results137 Tryz.ntmps137 [] [] [.any (.slice a (ExP.nd 10 x) ca), .any (.slice b (ExP.nd 10 y) cb)] w ?_
 by_cases hx0 : x = 0
 ·subst hx0
  have h0 := ExP.nd_zero 10
  rw [Nat.gcd_zero_left]
  repeat' (first | refine yX ?_ | (apply And.intro <;> intro _) | apply bothI | refine retB fun β => ?_ | intro βe | refine yO (x_len Tryz.underlying70) ?_ | exact trivial)
  ·exact ret fun β w' hm => ⟨b, cb, rfl, ht.below hm.below, fresh_or hLb, hb, hcb, hm.below⟩
  all_goals (exfalso; omega)
 by_cases hy0 : y = 0
 ·subst hy0
  have h0 := ExP.nd_zero 10
  have := hposn x (by omega)
  rw [Nat.gcd_zero_right]
  repeat' (first | refine yX ?_ | (apply And.intro <;> intro _) | apply bothI | refine retB fun β => ?_ | intro βe | refine yO (x_len Tryz.underlying70) ?_ | exact trivial)
  ·exact ret fun β w' hm => ⟨a, ca, rfl, hs.below hm.below, fresh_or hLa, ha, hca, hm.below⟩
 have hxp := hposn x (by omega)
 have hyp := hposn y (by omega)
 obtain ⟨M, hM⟩ : ∃ M, M = max x y := ⟨_, rfl⟩
 have hMn : ExP.nd 10 M ≤ 10000000 := by
  rcases Nat.le_total x y with h | h
  ·rw [hM, Nat.max_eq_right h]; exact hy
  ·rw [hM, Nat.max_eq_left h]; exact hx
 have hMl := ExP.nd_lt (b := 10) (by omega) M
 have hndM : ∀ z, z ≤ M → ExP.nd 10 z ≤ 10000000 := fun z h => Nat.le_trans (ExP.nd_mono (by omega) h) hMn
 have hpre : ∀ z, 0 < z → (nv .i64 10 z)[0]? = some (.int .i64 ((z % 10 : Nat) : Int)) := fun z h => by rw [nv_get (hposn z h), ExP.dig0]
 have HF := fun (a1 : Option Addr) (c1 u : Nat) (w' : World) (h : u ≤ M) hs' => half_any a1 c1 u w' (by have := hndM u h; omega) hs'
 have HCM := fun (a1 b1 : Option Addr) (c1 d1 u v : Nat) (w' : World) (h : u ≤ M) (h' : v ≤ M) hs' ht' => rcompare_any a1 b1 c1 d1 u v w' (by have := hndM u h; omega) (by have := hndM v h'; omega) hs' ht'
 have HLS := fun (a1 b1 : Option Addr) (c1 d1 u v : Nat) (w' : World) (h : u ≤ M) (h' : v ≤ M) (hle : v ≤ u) hs' ht' => rless_any a1 b1 c1 d1 u v w' (by have := hndM u h; omega) (by have := hndM v h'; omega) hle hs' ht'
 repeat' (first | refine yX ?_ | (apply And.intro <;> intro _) | apply bothI | refine retB fun β => ?_ | intro βe | refine yO (x_len Tryz.underlying70) ?_ | exact trivial)
 refine loop_learnA a (nv .i64 10 x) hw0 rfl hs ?_
 refine loop_learnA b (nv .i64 10 y) hw0 rfl ht ?_
 refine loop env_ok rfl (T := {t : Nat × CmT // GcI M t.2 ∧ t.2.u * 2 ^ t.1 = x ∧ t.2.v * 2 ^ t.1 = y}) (fun t => gJ w.heap.size L t.1.1 t.1.2) (fun t => t.1.2.u) ⟨(0, ⟨x, y, a, ca, b, cb⟩), ⟨by dsimp only; omega, by dsimp only; omega, ha, hca, hb, hcb⟩, by simp, by simp⟩ 1000 [] [] (fun _ => by exact Nat.zero_le _) (by dsimp only [gJ]; ((with_reducible show wk _ _); repeat' (first | exact trivial | exact eqSV_refl _ | refine eqI ?_ | refine eqS ?_ | apply And.intro | exact yV | fail)); all_goals exact fun b x h => ⟨h, (by first | exact slL_or hLa | exact slL_or hLb)⟩) (fun t I hI => ?_)
 obtain ⟨⟨tw, ⟨u, v, a1, c1, b1, d1⟩⟩, ⟨hu, hv, ha1, hc1, hb1, hd1⟩, hux, hvy⟩ := t
 dsimp only [gJ] at hu hv ha1 hc1 hb1 hd1 hux hvy ⊢
 have hu0 : 0 < u := by rcases Nat.eq_zero_or_pos u with h | h; (subst h; simp at hux; omega); exact h
 have hv0 : 0 < v := by rcases Nat.eq_zero_or_pos v with h | h; (subst h; simp at hvy; omega); exact h
 have hunp := hposn u hu0
 have hvnp := hposn v hv0
 have htw : tw ≤ 40000000 := by
  have h1 : 2 ^ tw ≤ x := by rw [← hux]; exact Nat.le_mul_of_pos_left _ hu0
  have := ExP.two_log (n := ExP.nd 10 M) (x := x) (k := tw) (by omega) h1
  omega
 have hsome : ∀ (q : Option Addr) (qc z : Nat), 0 < z → (q = none → qc = 0) → ExP.nd 10 z ≤ qc → ∃ ad, q = some ad := fun q qc z hz hq hqc => by
  cases q with
  | none => have := hposn z hz; have := hq rfl; omega
  | some ad => exact ⟨ad, rfl⟩
 obtain ⟨ad1, rfl⟩ := hsome a1 c1 u hu0 ha1 hc1
 obtain ⟨bd1, rfl⟩ := hsome b1 d1 v hv0 hb1 hd1
 by_cases hev : 2 ∣ u ∧ 2 ∣ v
 ·obtain ⟨e1, e2⟩ := hev
  have HFu := fun w' => HF (some ad1) c1 u w' hu
  have HFv := fun w' => HF (some bd1) d1 v w' hv
  repeat' (first | refine yX ?_ | (apply And.intro <;> intro _) | apply bothI | refine retB fun β => ?_ | intro βe | (refine callNat .i64 10 (u / 2) hw0 (by kernel_rfl) rfl (fun β w' hm => HFu w' (Mem.slL hm 0 rfl)) (fun ua uc h1 h2 h3 => ?_)) | (refine callNat .i64 10 (v / 2) hw0 (by kernel_rfl) rfl (fun β w' hm => HFv w' (Mem.slL hm 1 rfl)) (fun va vc h4 h5 h6 => ?_)) | refine yO (x_len Tryz.underlying70) ?_ | refine yN (j := 0) Tryz.underlying70 Tryz.sizeOf3 ?_ | refine yO (x_rem (by omega) (by omega)) ?_ | refine yO (v := .int .i64 ((u % 10 : Nat) : Int)) (Sym.x_loadP 0 (.int .i64 ((u % 10 : Nat) : Int)) (fun w => Tryz.isAgg3 w) rfl (fun b o h => h.1) (fun β => by rw [Nat.zero_mul]; exact hpre u hu0)) ?_ | refine yO (v := .int .i64 ((v % 10 : Nat) : Int)) (Sym.x_loadP 1 (.int .i64 ((v % 10 : Nat) : Int)) (fun w => Tryz.isAgg3 w) rfl (fun b o h => h.1) (fun β => by rw [Nat.zero_mul]; exact hpre v hv0)) ?_ | exact trivial)
  refine back_copy 0 2 rfl rfl rfl (Nat.zero_le _) (by kernel_rfl) ?_
  refine back_copy 1 3 rfl rfl rfl (Nat.zero_le _) (by kernel_rfl) ?_
  refine hI _ ⟨(tw + 1, ⟨u / 2, v / 2, ua, uc, va, vc⟩), ⟨by dsimp only; omega, by dsimp only; omega, h1, h2, h4, h5⟩, by dsimp only; rw [Nat.pow_succ, ← hux, Nat.mul_comm (2 ^ tw) 2, ← Nat.mul_assoc, Nat.div_mul_cancel e1], by dsimp only; rw [Nat.pow_succ, ← hvy, Nat.mul_comm (2 ^ tw) 2, ← Nat.mul_assoc, Nat.div_mul_cancel e2]⟩ (by dsimp only; omega) (by dsimp only [gJ]; ((with_reducible show wk _ _); repeat' (first | exact trivial | exact eqSV_refl _ | refine eqI ?_ | refine eqS ?_ | apply And.intro | exact yV | fail)); all_goals exact fun b x h => ⟨h.1, .inl h.2⟩)
 have hodd : ¬ 2 ∣ Nat.gcd u v := fun h => hev ⟨Nat.dvd_trans h (Nat.gcd_dvd_left _ _), Nat.dvd_trans h (Nat.gcd_dvd_right _ _)⟩
 have hfin : Nat.gcd x y = Nat.gcd u v * 2 ^ tw := by rw [← hux, ← hvy, Nat.gcd_mul_right]
 have hgM : Nat.gcd u v * 2 ^ tw ≤ M := by
  rw [← hfin]
  have := Nat.gcd_le_left y (by omega : 0 < x)
  omega
 have hevu : ((u % 10 : Nat) : Int) % 2 = 0 ↔ 2 ∣ u := by omega
 have hevv : ((v % 10 : Nat) : Int) % 2 = 0 ↔ 2 ∣ v := by omega
 rw [hfin]
 generalize hg : Nat.gcd u v = g at *
 repeat' (first | refine yX ?_ | (apply And.intro <;> intro _) | apply bothI | refine retB fun β => ?_ | intro βe | refine yO (x_len Tryz.underlying70) ?_ | refine yN (j := 0) Tryz.underlying70 Tryz.sizeOf3 ?_ | refine yO (x_rem (by omega) (by omega)) ?_ | refine yO (v := .int .i64 ((u % 10 : Nat) : Int)) (Sym.x_loadP 0 (.int .i64 ((u % 10 : Nat) : Int)) (fun w => Tryz.isAgg3 w) rfl (fun b o h => h.1) (fun β => by rw [Nat.zero_mul]; exact hpre u hu0)) ?_ | refine yO (v := .int .i64 ((v % 10 : Nat) : Int)) (Sym.x_loadP 1 (.int .i64 ((v % 10 : Nat) : Int)) (fun w => Tryz.isAgg3 w) rfl (fun b o h => h.1) (fun β => by rw [Nat.zero_mul]; exact hpre v hv0)) ?_ | exact trivial)
 all_goals (
  refine loop env_ok rfl (T := {t : CmT // GcI M t ∧ 0 < t.v ∧ Nat.gcd t.u t.v = g}) (fun t => gJ w.heap.size L tw t.1) (fun t => t.1.u + t.1.v) ⟨⟨u, v, some ad1, c1, some bd1, d1⟩, ⟨hu, hv, ha1, hc1, hb1, hd1⟩, hv0, hg⟩ 1000 [] [] (fun _ => by exact Nat.zero_le _) (by dsimp only [gJ]; ((with_reducible show wk _ _); repeat' (first | exact trivial | exact eqSV_refl _ | refine eqI ?_ | refine eqS ?_ | apply And.intro | exact yV | fail)); all_goals exact fun b x h => h) (fun t I2 hI2 => ?_)
  clear hI
  clear hux hvy hevu hevv hev hu0 hv0 hunp hvnp hu hv ha1 hc1 hb1 hd1 hfin
  obtain ⟨⟨u, v, a1, c1, b1, d1⟩, ⟨hu, hv, ha1, hc1, hb1, hd1⟩, hv0, hg⟩ := t
  dsimp only [gJ] at hu hv ha1 hc1 hb1 hd1 hv0 hg ⊢
  by_cases hu0 : u = 0
  ·subst hu0
   have h0 := ExP.nd_zero 10
   rw [Nat.gcd_zero_left] at hg
   subst hg
   repeat' (first | refine yX ?_ | (apply And.intro <;> intro _) | apply bothI | refine retB fun β => ?_ | intro βe | refine yO (x_len Tryz.underlying70) ?_ | exact trivial)
   refine loop env_ok rfl (T := {t : Nat × Option Addr × Nat // t.1 ≤ tw ∧ (t.2.1 = none → t.2.2 = 0) ∧ ExP.nd 10 (v * 2 ^ t.1) ≤ t.2.2}) (fun t => ⟨[(1, .any (.slice t.1.2.1 (ExP.nd 10 (v * 2 ^ t.1.1)) t.1.2.2)), (63, .int .i64 (tw : Nat)), (64, .int .i64 (t.1.1 : Nat))], [(1, false, .blob (SlL w.heap.size L t.1.2.1 (nv .i64 10 (v * 2 ^ t.1.1))))], 2, 71⟩) (fun t => tw - t.1.1) ⟨(0, b1, d1), Nat.zero_le _, hb1, by dsimp only; rw [Nat.pow_zero, Nat.mul_one]; exact hd1⟩ 1000 [] [] (fun _ => by exact Nat.zero_le _) (by dsimp only; rw [Nat.pow_zero, Nat.mul_one]; ((with_reducible show wk _ _); repeat' (first | exact trivial | exact eqSV_refl _ | refine eqI ?_ | refine eqS ?_ | apply And.intro | exact yV | fail)); all_goals exact fun b x h => h) (fun t I3 hI3 => ?_)
   obtain ⟨⟨k, b2, d2⟩, hk, hb2, hd2⟩ := t
   dsimp only at hk hb2 hd2 ⊢
   by_cases hkt : k < tw
   ·have hz : v * 2 ^ k ≤ M := Nat.le_trans (Nat.mul_le_mul_left _ (Nat.pow_le_pow_right (by omega) (by omega))) hgM
    have HP := fun w' => rplus_any b2 b2 d2 d2 (v * 2 ^ k) (v * 2 ^ k) w' (by have := hndM _ hz; omega) (by have := hndM _ hz; omega)
    have e : v * 2 ^ k + v * 2 ^ k = v * 2 ^ (k + 1) := by rw [Nat.pow_succ, ← Nat.mul_assoc]; omega
    rw [e] at HP
    repeat' (first | refine yX ?_ | (apply And.intro <;> intro _) | apply bothI | refine retB fun β => ?_ | intro βe | (refine callNat .i64 10 (v * 2 ^ (k + 1)) hw0 (by kernel_rfl) rfl (fun β w' hm => HP w' (Mem.slL hm 1 rfl) (Mem.slL hm 1 rfl)) (fun ua uc h1 h2 h3 => ?_)) | exact trivial)
    refine back_copy 1 2 rfl rfl rfl (Nat.zero_le _) (by kernel_rfl) ?_
    refine hI3 _ ⟨(k + 1, ua, uc), by dsimp only; omega, h1, h2⟩ (by dsimp only; omega) (by dsimp only; ((with_reducible show wk _ _); repeat' (first | exact trivial | exact eqSV_refl _ | refine eqI ?_ | refine eqS ?_ | apply And.intro | exact yV | fail)); all_goals exact fun b x h => ⟨h.1, .inl h.2⟩)
   ·obtain rfl : k = tw := by omega
    repeat' (first | refine yX ?_ | (apply And.intro <;> intro _) | apply bothI | refine retB fun β => ?_ | intro βe | exact trivial)
    refine ret fun β w' hm => ?_
    obtain ⟨q1, -, -, -⟩ := hm.row 1 _ _ rfl
    refine ⟨b2, d2, rfl, q1.2.1.at q1.1, q1.2.2.imp (fun h => ?_) id, hb2, hd2, hm.below⟩
    exact SlF.fresh (w := w') ⟨q1.2.1, h⟩ rfl
  have hu0 : 0 < u := Nat.pos_of_ne_zero hu0
  have hunp := hposn u hu0
  repeat' (first | refine yX ?_ | (apply And.intro <;> intro _) | apply bothI | refine retB fun β => ?_ | intro βe | refine yO (x_len Tryz.underlying70) ?_ | exact trivial)
  refine loop env_ok rfl (T := {t : CmT // GcI M t ∧ (0 < t.u ∧ 0 < t.v) ∧ Nat.gcd t.u t.v = g ∧ t.u + t.v ≤ u + v}) (fun t => gJ w.heap.size L tw t.1) (fun t => t.1.u) ⟨⟨u, v, a1, c1, b1, d1⟩, ⟨hu, hv, ha1, hc1, hb1, hd1⟩, ⟨hu0, hv0⟩, hg, Nat.le_refl _⟩ 1000 [] [] (fun _ => by exact Nat.zero_le _) (by dsimp only [gJ]; ((with_reducible show wk _ _); repeat' (first | exact trivial | exact eqSV_refl _ | refine eqI ?_ | refine eqS ?_ | apply And.intro | exact yV | fail)); all_goals exact fun b x h => h) (fun t I3 hI3 => ?_)
  generalize hS : u + v = S at *
  clear hunp hv0 hu0 hg hS hu hv ha1 hc1 hb1 hd1
  obtain ⟨⟨u, v, a1, c1, b1, d1⟩, ⟨hu, hv, ha1, hc1, hb1, hd1⟩, ⟨hu0, hv0⟩, hg, hS⟩ := t
  dsimp only [gJ] at hu hv ha1 hc1 hb1 hd1 hu0 hv0 hg hS ⊢
  have hunp := hposn u hu0
  obtain ⟨ad1, rfl⟩ := hsome a1 c1 u hu0 ha1 hc1
  have hevu : ((u % 10 : Nat) : Int) % 2 = 0 ↔ 2 ∣ u := by omega
  by_cases heu : 2 ∣ u
  ·have HFu := fun w' => HF (some ad1) c1 u w' hu
   have hg2 : Nat.gcd (u / 2) v = g := by
    have e : 2 * (u / 2) = u := Nat.mul_div_cancel' heu
    rw [ExP.gcd_half (by rw [e, hg]; exact hodd), e, hg]
   repeat' (first | refine yX ?_ | (apply And.intro <;> intro _) | apply bothI | refine retB fun β => ?_ | intro βe | (refine callNat .i64 10 (u / 2) hw0 (by kernel_rfl) rfl (fun β w' hm => HFu w' (Mem.slL hm 0 rfl)) (fun ua uc h1 h2 h3 => ?_)) | refine yO (x_len Tryz.underlying70) ?_ | refine yN (j := 0) Tryz.underlying70 Tryz.sizeOf3 ?_ | refine yO (x_rem (by omega) (by omega)) ?_ | refine yO (v := .int .i64 ((u % 10 : Nat) : Int)) (Sym.x_loadP 0 (.int .i64 ((u % 10 : Nat) : Int)) (fun w => Tryz.isAgg3 w) rfl (fun b o h => h.1) (fun β => by rw [Nat.zero_mul]; exact hpre u hu0)) ?_ | exact trivial)
   refine back_copy 0 2 rfl rfl rfl (Nat.zero_le _) (by kernel_rfl) ?_
   refine hI3 _ ⟨⟨u / 2, v, ua, uc, b1, d1⟩, ⟨by dsimp only; omega, by dsimp only; omega, h1, h2, hb1, hd1⟩, ⟨by dsimp only; omega, hv0⟩, hg2, by dsimp only; omega⟩ (by dsimp only; omega) (by dsimp only [gJ]; ((with_reducible show wk _ _); repeat' (first | exact trivial | exact eqSV_refl _ | refine eqI ?_ | refine eqS ?_ | apply And.intro | exact yV | fail)); all_goals first | exact fun b x h => h | exact fun b x h => ⟨h.1, .inl h.2⟩)
  repeat' (first | refine yX ?_ | (apply And.intro <;> intro _) | apply bothI | refine retB fun β => ?_ | intro βe | refine yO (x_len Tryz.underlying70) ?_ | refine yN (j := 0) Tryz.underlying70 Tryz.sizeOf3 ?_ | refine yO (x_rem (by omega) (by omega)) ?_ | refine yO (v := .int .i64 ((u % 10 : Nat) : Int)) (Sym.x_loadP 0 (.int .i64 ((u % 10 : Nat) : Int)) (fun w => Tryz.isAgg3 w) rfl (fun b o h => h.1) (fun β => by rw [Nat.zero_mul]; exact hpre u hu0)) ?_ | exact trivial)
  refine loop env_ok rfl (T := {t : CmT // GcI M t ∧ (0 < t.u ∧ 0 < t.v) ∧ Nat.gcd t.u t.v = g ∧ t.u + t.v ≤ S}) (fun t => gJ w.heap.size L tw t.1) (fun t => t.1.v) ⟨⟨u, v, some ad1, c1, b1, d1⟩, ⟨hu, hv, ha1, hc1, hb1, hd1⟩, ⟨hu0, hv0⟩, hg, hS⟩ 1000 [] [] (fun _ => by exact Nat.zero_le _) (by dsimp only [gJ]; ((with_reducible show wk _ _); repeat' (first | exact trivial | exact eqSV_refl _ | refine eqI ?_ | refine eqS ?_ | apply And.intro | exact yV | fail)); all_goals exact fun b x h => h) (fun t I4 hI4 => ?_)
  clear hevu heu hunp hv0 hu0 hg hS hu hv ha1 hc1 hb1 hd1 hI3
  obtain ⟨⟨u, v, a1, c1, b1, d1⟩, ⟨hu, hv, ha1, hc1, hb1, hd1⟩, ⟨hu0, hv0⟩, hg, hS⟩ := t
  dsimp only [gJ] at hu hv ha1 hc1 hb1 hd1 hu0 hv0 hg hS ⊢
  have hvnp := hposn v hv0
  obtain ⟨bd1, rfl⟩ := hsome b1 d1 v hv0 hb1 hd1
  have hevv : ((v % 10 : Nat) : Int) % 2 = 0 ↔ 2 ∣ v := by omega
  by_cases hev2 : 2 ∣ v
  ·have HFv := fun w' => HF (some bd1) d1 v w' hv
   have hg2 : Nat.gcd u (v / 2) = g := by
    have e : 2 * (v / 2) = v := Nat.mul_div_cancel' hev2
    rw [ExP.gcd_half' (by rw [e, hg]; exact hodd), e, hg]
   repeat' (first | refine yX ?_ | (apply And.intro <;> intro _) | apply bothI | refine retB fun β => ?_ | intro βe | (refine callNat .i64 10 (v / 2) hw0 (by kernel_rfl) rfl (fun β w' hm => HFv w' (Mem.slL hm 1 rfl)) (fun ua uc h1 h2 h3 => ?_)) | refine yO (x_len Tryz.underlying70) ?_ | refine yN (j := 0) Tryz.underlying70 Tryz.sizeOf3 ?_ | refine yO (x_rem (by omega) (by omega)) ?_ | refine yO (v := .int .i64 ((v % 10 : Nat) : Int)) (Sym.x_loadP 1 (.int .i64 ((v % 10 : Nat) : Int)) (fun w => Tryz.isAgg3 w) rfl (fun b o h => h.1) (fun β => by rw [Nat.zero_mul]; exact hpre v hv0)) ?_ | exact trivial)
   refine back_copy 1 2 rfl rfl rfl (Nat.zero_le _) (by kernel_rfl) ?_
   refine hI4 _ ⟨⟨u, v / 2, a1, c1, ua, uc⟩, ⟨by dsimp only; omega, by dsimp only; omega, ha1, hc1, h1, h2⟩, ⟨hu0, by dsimp only; omega⟩, hg2, by dsimp only; omega⟩ (by dsimp only; omega) (by dsimp only [gJ]; ((with_reducible show wk _ _); repeat' (first | exact trivial | exact eqSV_refl _ | refine eqI ?_ | refine eqS ?_ | apply And.intro | exact yV | fail)); all_goals first | exact fun b x h => h | exact fun b x h => ⟨h.1, .inl h.2⟩)
  have hcl := ExP.cmpS_lt (x := u) (y := v)
  have HC := fun w' => HCM a1 (some bd1) c1 d1 u v w' hu hv
  generalize ExP.cmpS u v = cv at *
  by_cases hlt : u < v
  ·have HL := fun w' => HLS (some bd1) a1 d1 c1 v u w' hv hu (by omega)
   have hg2 : Nat.gcd (v - u) u = g := by rw [Nat.gcd_sub_self_left (by omega), Nat.gcd_comm, hg]
   repeat' (first | refine yX ?_ | (apply And.intro <;> intro _) | apply bothI | refine retB fun β => ?_ | intro βe | refine yK (.int .i64 cv) (fun β w hm => HC w (Mem.slL hm 0 rfl) (Mem.slL hm 1 rfl)) ?_ | (refine callNat .i64 10 (v - u) hw0 (by kernel_rfl) rfl (fun β w' hm => HL w' (Mem.slL hm 1 rfl) (Mem.slL hm 0 rfl)) (fun ua uc h1 h2 h3 => ?_)) | refine yO (x_len Tryz.underlying70) ?_ | refine yN (j := 0) Tryz.underlying70 Tryz.sizeOf3 ?_ | refine yO (x_rem (by omega) (by omega)) ?_ | refine yO (v := .int .i64 ((v % 10 : Nat) : Int)) (Sym.x_loadP 1 (.int .i64 ((v % 10 : Nat) : Int)) (fun w => Tryz.isAgg3 w) rfl (fun b o h => h.1) (fun β => by rw [Nat.zero_mul]; exact hpre v hv0)) ?_ | exact trivial)
   refine back_copy 1 0 rfl rfl rfl (Nat.zero_le _) (by kernel_rfl) ?_
   refine back_copy 0 2 rfl rfl rfl (Nat.zero_le _) (by kernel_rfl) ?_
   refine hI2 _ ⟨⟨v - u, u, ua, uc, a1, c1⟩, ⟨by dsimp only; omega, by dsimp only; omega, h1, h2, ha1, hc1⟩, hu0, hg2⟩ (by dsimp only; omega) (by dsimp only [gJ]; ((with_reducible show wk _ _); repeat' (first | exact trivial | exact eqSV_refl _ | refine eqI ?_ | refine eqS ?_ | apply And.intro | exact yV | fail)); all_goals first | exact fun b x h => h | exact fun b x h => ⟨h.1, .inl h.2⟩)
  ·have HL := fun w' => HLS a1 (some bd1) c1 d1 u v w' hu hv (by omega)
   have hg2 : Nat.gcd (u - v) v = g := by rw [Nat.gcd_sub_self_left (by omega), hg]
   repeat' (first | refine yX ?_ | (apply And.intro <;> intro _) | apply bothI | refine retB fun β => ?_ | intro βe | refine yK (.int .i64 cv) (fun β w hm => HC w (Mem.slL hm 0 rfl) (Mem.slL hm 1 rfl)) ?_ | (refine callNat .i64 10 (u - v) hw0 (by kernel_rfl) rfl (fun β w' hm => HL w' (Mem.slL hm 0 rfl) (Mem.slL hm 1 rfl)) (fun ua uc h1 h2 h3 => ?_)) | refine yO (x_len Tryz.underlying70) ?_ | refine yN (j := 0) Tryz.underlying70 Tryz.sizeOf3 ?_ | refine yO (x_rem (by omega) (by omega)) ?_ | refine yO (v := .int .i64 ((v % 10 : Nat) : Int)) (Sym.x_loadP 1 (.int .i64 ((v % 10 : Nat) : Int)) (fun w => Tryz.isAgg3 w) rfl (fun b o h => h.1) (fun β => by rw [Nat.zero_mul]; exact hpre v hv0)) ?_ | exact trivial)
   refine back_copy 0 2 rfl rfl rfl (Nat.zero_le _) (by kernel_rfl) ?_
   refine hI2 _ ⟨⟨u - v, v, ua, uc, some bd1, d1⟩, ⟨by dsimp only; omega, by dsimp only; omega, h1, h2, hb1, hd1⟩, hv0, hg2⟩ (by dsimp only; omega) (by dsimp only [gJ]; ((with_reducible show wk _ _); repeat' (first | exact trivial | exact eqSV_refl _ | refine eqI ?_ | refine eqS ?_ | apply And.intro | exact yV | fail)); all_goals first | exact fun b x h => h | exact fun b x h => ⟨h.1, .inl h.2⟩))
end Go.Proofs.YtdkhkfdenlabaaaGreatDoor
