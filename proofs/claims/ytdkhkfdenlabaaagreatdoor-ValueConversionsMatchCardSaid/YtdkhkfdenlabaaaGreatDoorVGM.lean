/- Uh numbers read: the program's run, -/
import Derived.Test.YtdkhkfdenlabaaaGreatDoorVGG
import Derived.Test.YtdkhkfdenlabaaaGreatDoorVGD
import Derived.Test.YtdkhkfdenlabaaaGreatDoorVGL
import Derived.Test.YtdkhkfdenlabaaaGreatDoorVGK
set_option linter.unusedSimpArgs false
set_option linter.unusedVariables false
set_option maxRecDepth 100000
set_option maxHeartbeats 64000000
namespace Go.Proofs.YtdkhkfdenlabaaaGreatDoor
open Go.Proofs.Tryz
open Go.RowKit
open Sym
attribute [local irreducible] Calls Sym.bM ae.nd ae.bu ae.upd
theorem wV (s : List UInt8) (w : World) : QC 178 #[.string (ah s), .string (ah xH)] w (.string (ah (ae.bf s))) := by
 have hp : (fun c => xH.contains c) = ae.aY := funext vX
 have := Any.strings_TrimLeft_laid Tryz.lays161 (by kernel_rfl) (ah s) (ah xH) w (by decide) (ascii_of_all (by decide))
 refine this.mono ?_
 rintro e w' ⟨rfl, hb⟩
 refine ⟨?_, hb⟩
 have e1 : Lib.trimLeftS s xH = ae.bf s := by unfold Lib.trimLeftS ae.bf; rw [hp]
 show Ending.returned (Value.string (ah (Lib.trimLeftS s xH))) = _
 rw [e1]
theorem run_any (s : List UInt8) (w : World) (hs : s.length <= 9223372036854775807) : QC 164 #[.string (ah s)] w (.tuple #[.string (ah (ae.aW s)), .string (ah (ae.bf s))]) := by
 have HT := fun w => wV s w
 have h1 := ae.eH s
 have h2 := ae.Jw s
 generalize ae.bf s = r at *
 refine yE func164 rfl results164 ntmps164 [] [] [.str s] w ?_
 repeat' (first | exact ⟨⟩ | refine yG ?_ ?_ | refine yA (.str r) (fun _ => HT) ?_ | ((with_reducible show ∃ _, _); first | (refine ⟨s.length - r.length, by omega, by omega, ?_⟩)) | intro _)
 all_goals first | (rw [h2]; rfl) | (simp [SV.den, SV.aF, h2]; done) | skip
theorem jC (s : List UInt8) (c : UInt8) (w : World) : QC 162 #[.string (ah s), .string (ah [c])] w (.bool (s.head? == some c)) := by
 refine (Tryz.strings_HasPrefix (ah s) (ah [c]) w).mono ?_
 rintro e w' ⟨h, rfl⟩
 refine ⟨?_, Below.refl _ _⟩
 rw [h, show (ah s).data.toList = s from rfl, show (ah [c]).data.toList = [c] from rfl]
 congr 2
 unfold Lib.hasPrefix
 cases s with
 | nil => rfl
 | cons d r =>
   by_cases h : d = c
   ·subst h; simp
   ·have h' : ¬ c = d := fun e => h e.symm
    simp [List.isPrefixOf, beq_eq_false_iff_ne.2 h, beq_eq_false_iff_ne.2 h']
theorem SY (k : Nat) : Lib.repeatL [48] k = List.replicate k 48 := by
 induction k with
 | zero => rfl
 | succ k ih => rw [Lib.repeatL, ih]; rfl
theorem Ce (k : Nat) (w : World) (hk : k <= 1000000) : QC 202 #[.string (ah [48]), .int .i64 (k : Int)] w (.string (ah (List.replicate k 48))) := by
 rcases Nat.lt_or_ge k 2 with h | h
 ·have : k = 0 \/ k = 1 := by omega
  rcases this with rfl | rfl
  ·exact (Tryz.strings_Repeat_zero (ah [48]) w).mono fun e w' ⟨h1, h2⟩ => ⟨h1, by rw [h2]; exact Below.refl _ _⟩
  ·exact (Tryz.strings_Repeat_one (ah [48]) w).mono fun e w' ⟨h1, h2⟩ => ⟨h1, by rw [h2]; exact Below.refl _ _⟩
 ·refine (Tryz.strings_Repeat_main (ah [48]) k w h (by omega) (by rw [bW]; simp; omega) (by rw [bW]; simp)).mono ?_
  rintro e w' ⟨rfl, hb⟩
  refine ⟨?_, hb⟩
  show Ending.returned (Value.string (ah (Lib.repeatL [48] k))) = _
  rw [SY]
theorem wU (k : Nat) (w : World) (hw0 : 0 < w.heap.size) (hk : k <= 500000) : Calls Tryz.prog 167 #[.int .i64 (k : Int)] w (iT .u32 1000000000 (10 ^ k) w) := by
 have HR := fun w => Ce k w (by omega)
 obtain ⟨hv, ha⟩ := ae.V8 k
 have HP := fun w => parse_any (49 :: List.replicate k 48) w (by simp; omega) ha
 rw [hv] at HP
 have hl : (List.replicate k (48 : UInt8)).length = k := by simp
 clear hv ha
 generalize List.replicate k (48 : UInt8) = z at *
 refine yE func167 rfl results167 ntmps167 [] [] [.int .i64 (k : Int)] w ?_
 repeat' (first | exact ⟨⟩ | refine yG ?_ ?_ | refine yA (.str z) (fun _ => HR) ?_ | (refine aH .u32 1000000000 (10 ^ k) hw0 (by kernel_rfl) rfl (fun β w' hm => HP w') (fun a1 c1 q1 q2 q3 => ?_)) | intro _)
 all_goals first | (exfalso; omega) | skip
 all_goals refine ret fun β w' hm => ?_
 all_goals exact ⟨a1, c1, rfl, hm.dS 0 rfl, hm.di 0 rfl rfl, q1, q2, hm.below⟩
theorem lV (s : List UInt8) (w : World) (hs : s.length <= 9223372036854775807) : QC 165 #[.string (ah s)] w (.tuple #[.int .i64 (if ae.lU s = true then ae.lK s else 0), .bool (ae.lU s)]) := by
 cases s with
 | nil =>
   refine yE func165 rfl results165 ntmps165 [] [] [.str []] w ?_
   repeat' (first | exact ⟨⟩ | refine yG ?_ ?_ | intro _)
   all_goals first | rfl | (exfalso; simp_all; done)
 | cons c t =>
   have hB : ae.lU (c :: t) = ((c == 101 || c == 69) && ae.jX (ae.nU t)) := rfl
   have hV : ae.lK (c :: t) = if ae.yC t = true then -(ae.ax (ae.nU t) : Int) else (ae.ax (ae.nU t) : Int) := rfl
   have hc0 : ((c :: t : List UInt8).getD 0 0).toNat = c.toNat := rfl
   have hc8 := c.toNat_lt
   by_cases hc : c = 101 \/ c = 69
   ·have hce : (c == 101 || c == 69) = true := by rcases hc with rfl | rfl <;> rfl
    have hcn : c.toNat = 101 \/ c.toNat = 69 := by rcases hc with rfl | rfl <;> simp
    rw [hce, Bool.true_and] at hB
    rw [hB, hV]
    have hsP : ae.yC t = (t.head? == some 45) := rfl
    have hsR : ae.nU t = if t.head? = some 45 \/ t.head? = some 43 then t.tail else t := rfl
    by_cases h45 : t.head? = some 45
    ·obtain ⟨u, rfl⟩ : ∃ u, t = 45 :: u := by
      cases t with
      | nil => cases h45
      | cons d u => simp at h45; subst h45; exact ⟨u, rfl⟩
     have e1 : ae.yC (45 :: u) = true := rfl
     have e2 : ae.nU (45 :: u) = u := rfl
     simp only [e1, e2, if_true]
     have yT := fun w => jC (45 :: u) 45 w
     have zS := fun w => jC (45 :: u) 43 w
     rw [show (((45 : UInt8) :: u).head? == some 45) = true from rfl] at yT
     have RU := fun w => run_any u w (by simp only [List.length_cons] at hs; omega)
     by_cases hok : ae.jX u = true
     ·obtain ⟨o1, o2, o3, o4, o5⟩ := ae.jZ hok
      have hv := ae.JY hok
      have AT := fun w => qX u w o1 (by omega) o5
      rw [o2, o3] at RU
      rw [hok, if_pos rfl]
      generalize ae.ax u = v at *
      refine yE func165 rfl results165 ntmps165 [] [] [.str (c :: 45 :: u)] w ?_
      repeat' (first | exact ⟨⟩ | refine yG ?_ ?_ | refine yA (.lit true) (fun _ => yT) ?_ | refine yA (.lit false) (fun _ => zS) ?_ | refine yA (.bg [.str u, .str []]) (fun _ => RU) ?_ | refine yA (.bg [.int .i64 (v : Nat), .any .nilIface]) (fun _ => AT) ?_ | ((with_reducible show ∃ _, _); first | (refine ⟨0, rfl, by simp, ?_⟩) | (refine ⟨1, rfl, by simp, ?_⟩)) | intro _)
      all_goals first | rfl | (exfalso; omega) | (exfalso; simp_all; done) | (simp [SV.den, SV.aF]; done)
     ·have hno := ae.xM (Bool.eq_false_iff.2 hok)
      rw [Bool.eq_false_iff.2 hok, if_neg (by decide)]
      generalize ae.aW u = d at *
      generalize ae.bf u = r at *
      refine yE func165 rfl results165 ntmps165 [] [] [.str (c :: 45 :: u)] w ?_
      repeat' (first | exact ⟨⟩ | refine yG ?_ ?_ | refine yA (.lit true) (fun _ => yT) ?_ | refine yA (.lit false) (fun _ => zS) ?_ | refine yA (.bg [.str d, .str r]) (fun _ => RU) ?_ | ((with_reducible show ∃ _, _); first | (refine ⟨0, rfl, by simp, ?_⟩) | (refine ⟨1, rfl, by simp, ?_⟩)) | intro _)
      all_goals first | rfl | (exfalso; omega) | (exfalso; rcases hno with h | h | h <;> first | omega | contradiction | (exact h (by assumption))) | (exfalso; simp_all; done)
    by_cases h43 : t.head? = some 43
    ·obtain ⟨u, rfl⟩ : ∃ u, t = 43 :: u := by
      cases t with
      | nil => cases h43
      | cons d u => simp at h43; subst h43; exact ⟨u, rfl⟩
     have e1 : ae.yC (43 :: u) = false := rfl
     have e2 : ae.nU (43 :: u) = u := rfl
     simp only [e1, e2, Bool.false_eq_true, if_false]
     have yT := fun w => jC (43 :: u) 45 w
     have zS := fun w => jC (43 :: u) 43 w
     rw [show (((43 : UInt8) :: u).head? == some 45) = false from rfl] at yT
     rw [show (((43 : UInt8) :: u).head? == some 43) = true from rfl] at zS
     have RU := fun w => run_any u w (by simp only [List.length_cons] at hs; omega)
     by_cases hok : ae.jX u = true
     ·obtain ⟨o1, o2, o3, o4, o5⟩ := ae.jZ hok
      have hv := ae.JY hok
      have AT := fun w => qX u w o1 (by omega) o5
      rw [o2, o3] at RU
      rw [hok, if_pos rfl]
      generalize ae.ax u = v at *
      refine yE func165 rfl results165 ntmps165 [] [] [.str (c :: 43 :: u)] w ?_
      repeat' (first | exact ⟨⟩ | refine yG ?_ ?_ | refine yA (.lit false) (fun _ => yT) ?_ | refine yA (.lit true) (fun _ => zS) ?_ | refine yA (.bg [.str u, .str []]) (fun _ => RU) ?_ | refine yA (.bg [.int .i64 (v : Nat), .any .nilIface]) (fun _ => AT) ?_ | ((with_reducible show ∃ _, _); first | (refine ⟨0, rfl, by simp, ?_⟩) | (refine ⟨1, rfl, by simp, ?_⟩)) | intro _)
      all_goals first | rfl | (exfalso; omega) | (exfalso; simp_all; done) | (simp [SV.den, SV.aF]; done)
     ·have hno := ae.xM (Bool.eq_false_iff.2 hok)
      rw [Bool.eq_false_iff.2 hok, if_neg (by decide)]
      generalize ae.aW u = d at *
      generalize ae.bf u = r at *
      refine yE func165 rfl results165 ntmps165 [] [] [.str (c :: 43 :: u)] w ?_
      repeat' (first | exact ⟨⟩ | refine yG ?_ ?_ | refine yA (.lit false) (fun _ => yT) ?_ | refine yA (.lit true) (fun _ => zS) ?_ | refine yA (.bg [.str d, .str r]) (fun _ => RU) ?_ | ((with_reducible show ∃ _, _); first | (refine ⟨0, rfl, by simp, ?_⟩) | (refine ⟨1, rfl, by simp, ?_⟩)) | intro _)
      all_goals first | rfl | (exfalso; omega) | (exfalso; rcases hno with h | h | h <;> first | omega | contradiction | (exact h (by assumption))) | (exfalso; simp_all; done)
    ·have e1 : ae.yC t = false := by rw [hsP]; exact beq_eq_false_iff_ne.2 h45
     have e2 : ae.nU t = t := by rw [hsR, if_neg (by simp [h45, h43])]
     simp only [e1, e2, Bool.false_eq_true, if_false]
     have yT := fun w => jC (t) 45 w
     have zS := fun w => jC (t) 43 w
     rw [beq_eq_false_iff_ne.2 h45] at yT
     rw [beq_eq_false_iff_ne.2 h43] at zS
     have RU := fun w => run_any t w (by simp only [List.length_cons] at hs; omega)
     by_cases hok : ae.jX t = true
     ·obtain ⟨o1, o2, o3, o4, o5⟩ := ae.jZ hok
      have hv := ae.JY hok
      have AT := fun w => qX t w o1 (by omega) o5
      rw [o2, o3] at RU
      rw [hok, if_pos rfl]
      generalize ae.ax t = v at *
      refine yE func165 rfl results165 ntmps165 [] [] [.str (c :: t)] w ?_
      repeat' (first | exact ⟨⟩ | refine yG ?_ ?_ | refine yA (.lit false) (fun _ => yT) ?_ | refine yA (.lit false) (fun _ => zS) ?_ | refine yA (.bg [.str t, .str []]) (fun _ => RU) ?_ | refine yA (.bg [.int .i64 (v : Nat), .any .nilIface]) (fun _ => AT) ?_ | ((with_reducible show ∃ _, _); first | (refine ⟨0, rfl, by simp, ?_⟩) | (refine ⟨1, rfl, by simp, ?_⟩)) | intro _)
      all_goals first | rfl | (exfalso; omega) | (exfalso; simp_all; done) | (simp [SV.den, SV.aF]; done)
     ·have hno := ae.xM (Bool.eq_false_iff.2 hok)
      rw [Bool.eq_false_iff.2 hok, if_neg (by decide)]
      generalize ae.aW t = d at *
      generalize ae.bf t = r at *
      refine yE func165 rfl results165 ntmps165 [] [] [.str (c :: t)] w ?_
      repeat' (first | exact ⟨⟩ | refine yG ?_ ?_ | refine yA (.lit false) (fun _ => yT) ?_ | refine yA (.lit false) (fun _ => zS) ?_ | refine yA (.bg [.str d, .str r]) (fun _ => RU) ?_ | ((with_reducible show ∃ _, _); first | (refine ⟨0, rfl, by simp, ?_⟩) | (refine ⟨1, rfl, by simp, ?_⟩)) | intro _)
      all_goals first | rfl | (exfalso; omega) | (exfalso; rcases hno with h | h | h <;> first | omega | contradiction | (exact h (by assumption))) | (exfalso; simp_all; done)
   ·have hce : (c == 101 || c == 69) = false := by
     simp only [not_or] at hc
     simp [hc.1, hc.2]
    have hcn : c.toNat ≠ 101 /\ c.toNat ≠ 69 := ⟨fun e => hc (.inl (UInt8.toNat_inj.1 e)), fun e => hc (.inr (UInt8.toNat_inj.1 e))⟩
    rw [hce, Bool.false_and] at hB
    rw [hB]
    refine yE func165 rfl results165 ntmps165 [] [] [.str (c :: t)] w ?_
    repeat' (first | exact ⟨⟩ | refine yG ?_ ?_ | ((with_reducible show ∃ _, _); first | (refine ⟨0, rfl, by simp, ?_⟩)) | intro _)
    all_goals first | rfl | (exfalso; omega) | (exfalso; simp_all; done)
theorem ae.sF {f : ae.Fr} (h : ae.bQ f = 0) : ae.jr f = ae.az f := if_pos h
theorem ae.fZ {f : ae.Fr} (h : ae.bQ f = 0) {b : Nat} (hb : 10 <= b) : ae.nd b (ae.az f).n <= 300 /\ ae.nd b (ae.az f).d <= 300 /\ 0 < (ae.az f).d := by
 obtain ⟨h1, h2, h3, h4, h5, h6, h7⟩ := ae.Ak h
 exact ⟨Nat.le_trans (ae.qG hb (ae.jb h1).2) h4, Nat.le_trans (ae.qG hb (ae.jb h2).2) h5, h7⟩
theorem ae.both_ok {f g : ae.Fr} (h : ae.jF f g = 0) : ae.bQ f = 0 /\ ae.bQ g = 0 := by
 unfold ae.jF at h
 split at h
 ·exact ⟨by assumption, h⟩
 ·exact absurd h (by assumption)
theorem aX.of {k : IntKind} {b : Nat} {m : Bool} {n d : Nat} {a a2 : Option Addr} {c c2 : Nat} {w : World} (h1 : aS a (nv k b n) w) (h2 : aS a2 (nv k b d) w) (h3 : iw b ⟨m, n, d, a, c, a2, c2⟩) : aX k b ⟨m, n, d, a, c, a2, c2⟩ w := ⟨h1, h2, h3⟩
def ae.Si (f : ae.Fr) (N : ae.Num) : ae.Fr := if ae.bQ f = 0 then ae.ak N else ([], [])
def ae.Xw (f : ae.Fr) (N : ae.Num) : Int := if ae.bQ f = 0 then ae.ay N else ae.bQ f
theorem Vp (f : ae.Fr) (w : World) (hw : XW w) (hw0 : 0 < w.heap.size) (h1 : f.1.length <= 9223372036854775807) (h2 : f.2.length <= 9223372036854775807) :
  Calls Tryz.prog 116 #[iI f] w (fQ (ae.Si f (ae.OX (ae.az f))) (ae.Xw f (ae.OX (ae.az f))) w) := by
 have R1 := fun (w' : World) (h : BW w w') => pO f w' (zl hw0 h.size) h1 h2
 by_cases hE : ae.bQ f = 0
 ·obtain ⟨q1, q2, q3⟩ := ae.fZ hE (b := 1000000000) (by omega)
  have hV := ae.sF hE
  rw [ae.Si, ae.Xw, if_pos hE, if_pos hE]
  rw [hE, hV] at R1
  have W1 := fun (x : bI) (w' : World) (h : BW w w') => write_any x w' (hw.below h) (zl hw0 h.size)
  generalize ae.az f = V at *
  obtain ⟨m, n, d⟩ := V
  dsimp only [ae.OX] at *
  obtain ⟨f1, f2⟩ := f
  refine yE func116 rfl results116 ntmps116 [] [] [.agg [.str f1, .str f2]] w ?_
  repeat' (first | exact ⟨⟩ | refine yG ?_ ?_ | (refine eG .u32 1000000000 ⟨m, n, d⟩ 0 hw0 (by kernel_rfl) rfl (fun β w' hm => R1 w' hm.below) (fun a1 c1 a2 c2 hcap => ?_)) | refine yK (.bg [.agg [.str (ae.ak ⟨!m, n, d⟩).1, .str (ae.ak ⟨!m, n, d⟩).2], .int .i64 (ae.ay ⟨!m, n, d⟩)]) (fun β w hm => W1 ⟨!m, n, d, a1, c1, a2, c2⟩ w hm.below (aX.of (hm.dS 2 rfl) (hm.dS 3 rfl) ⟨hcap.an, hcap.bn, hcap.cn, hcap.cd⟩) q3 (by dsimp only; omega) (by dsimp only; omega)) ?_ | intro _)
  all_goals rfl
 ·have hB := ae.yj rfl hE
  rw [ae.Si, ae.Xw, if_neg hE, if_neg hE]
  rw [hB] at R1
  generalize ae.bQ f = E at *
  obtain ⟨f1, f2⟩ := f
  refine yE func116 rfl results116 ntmps116 [] [] [.agg [.str f1, .str f2]] w ?_
  repeat' (first | exact ⟨⟩ | refine yG ?_ ?_ | (refine eG .u32 1000000000 ⟨false, 0, 0⟩ E hw0 (by kernel_rfl) rfl (fun β w' hm => R1 w' hm.below) (fun a1 c1 a2 c2 hcap => ?_)) | intro _)
  all_goals first | rfl | (exfalso; simp_all; done)
def ae.oQ (f g : ae.Fr) (N : ae.Num) (e : Int) : ae.Fr := if ae.jF f g = 0 then (if e = 0 then ae.ak N else ([], [])) else ([], [])
def ae.qR (f g : ae.Fr) (N : ae.Num) (e : Int) : Int := if ae.jF f g = 0 then (if e = 0 then ae.ay N else e) else ae.jF f g
theorem two_any (xN : FuncId) (hf : dK Tryz.prog xN = true) (f g : ae.Fr) (N : ae.Num) (e : Int) (w : World) (hw : XW w) (hw0 : 0 < w.heap.size) (h1 : f.1.length <= 9223372036854775807) (h2 : f.2.length <= 9223372036854775807) (h3 : g.1.length <= 9223372036854775807) (h4 : g.2.length <= 9223372036854775807)
  (HF : ae.jF f g = 0 -> ∀ (x y : bI) (w' : World), 0 < w'.heap.size -> aX .u32 1000000000 x w' -> aX .u32 1000000000 y w' -> x.num = ae.az f -> y.num = ae.az g -> Calls Tryz.prog xN #[x.val 1000000000, y.val 1000000000] w' (iC .u32 1000000000 N e w'))
  (HN : ae.jF f g = 0 -> e = 0 -> 0 < N.d /\ ae.nd 1000000000 N.n <= 1000000 /\ ae.nd 1000000000 N.d <= 1000000) :
  Calls Tryz.prog 170 #[iI f, iI g, .func (.func xN) #[] #[]] w (fQ (ae.oQ f g N e) (ae.qR f g N e) w) := by
 have R1 := fun (w' : World) (h : BW w w') => both_any f g w' (zl hw0 h.size) h1 h2 h3 h4
 by_cases hE : ae.jF f g = 0
 ·obtain ⟨hE1, hE2⟩ := ae.both_ok hE
  have hV := ae.sF hE1
  have hY : ae.DJ f g = ae.az g := by rw [ae.DJ, if_pos hE1, ae.sF hE2]
  replace HF := HF hE
  replace HN := HN hE
  rw [ae.oQ, ae.qR, if_pos hE, if_pos hE]
  rw [hE, hV, hY] at R1
  have W1 := fun (x : bI) (w' : World) (h : BW w w') => write_any x w' (hw.below h) (zl hw0 h.size)
  have HF' := fun (x y : bI) (w' : World) (h : BW w w') => HF x y w' (zl hw0 h.size)
  clear HF
  generalize ae.az f = V at *
  generalize ae.az g = Y at *
  obtain ⟨m, n, d⟩ := V
  obtain ⟨m', n', d'⟩ := Y
  obtain ⟨M, P, D⟩ := N
  dsimp only at *
  obtain ⟨f1, f2⟩ := f
  obtain ⟨g1, g2⟩ := g
  refine yE func170 rfl results170 ntmps170 [] [200004] [.agg [.str f1, .str f2], .agg [.str g1, .str g2], .fn xN []] w ?_
  repeat' (first | refine yX ?_ | (apply And.intro <;> intro _) | apply gK | refine jO fun β => ?_ | intro βe | (refine Ha .u32 1000000000 ⟨m, n, d⟩ ⟨m', n', d'⟩ 0 hw0 (by kernel_rfl) rfl (fun β w' hm => R1 w' hm.below) (fun a1 c1 a2 c2 b1 e1 b2 e2 hcap hcap2 => ?_)) | (refine eG .u32 1000000000 ⟨M, P, D⟩ e hw0 hf rfl (fun β w' hm => HF' ⟨m, n, d, a1, c1, a2, c2⟩ ⟨m', n', d', b1, e1, b2, e2⟩ w' hm.below (aX.of (hm.dS 3 rfl) (hm.dS 4 rfl) hcap) (aX.of (hm.dS 5 rfl) (hm.dS 6 rfl) hcap2) rfl rfl) (fun a3 c3 a4 c4 YG => ?_)) | refine yK (.bg [.agg [.str (ae.ak ⟨M, P, D⟩).1, .str (ae.ak ⟨M, P, D⟩).2], .int .i64 (ae.ay ⟨M, P, D⟩)]) (fun β w hm => W1 ⟨M, P, D, a3, c3, a4, c4⟩ w hm.below (aX.of (hm.dS 9 rfl) (hm.dS 10 rfl) YG) (HN (Decidable.not_not.1 (by assumption))).1 (HN (Decidable.not_not.1 (by assumption))).2.1 (HN (Decidable.not_not.1 (by assumption))).2.2) ?_ | exact trivial)
  all_goals first | (exfalso; simp_all; done) | skip
  ·rename_i h0
   rw [if_neg h0, if_neg h0]; rfl
  ·rename_i h0
   simp only [Decidable.not_not] at h0
   rw [if_pos h0, if_pos h0]; rfl
 ·rw [ae.oQ, ae.qR, if_neg hE, if_neg hE]
  generalize ae.jF f g = E at *
  generalize ae.jr f = V at *
  generalize ae.DJ f g = Y at *
  obtain ⟨m, n, d⟩ := V
  obtain ⟨m', n', d'⟩ := Y
  obtain ⟨f1, f2⟩ := f
  obtain ⟨g1, g2⟩ := g
  refine yE func170 rfl results170 ntmps170 [] [200004] [.agg [.str f1, .str f2], .agg [.str g1, .str g2], .fn xN []] w ?_
  repeat' (first | refine yX ?_ | (apply And.intro <;> intro _) | apply gK | refine jO fun β => ?_ | intro βe | (refine Ha .u32 1000000000 ⟨m, n, d⟩ ⟨m', n', d'⟩ E hw0 (by kernel_rfl) rfl (fun β w' hm => R1 w' hm.below) (fun a1 c1 a2 c2 b1 e1 b2 e2 hcap hcap2 => ?_)) | exact trivial)
  all_goals first | rfl | (exfalso; simp_all; done)
theorem ae.XJ {b : Nat} (hb : 2 <= b) {x y : ae.Num} {k : Nat} (h1 : ae.nd b x.n <= k) (h2 : ae.nd b x.d <= k) (h3 : ae.nd b y.n <= k) (h4 : ae.nd b y.d <= k) (h5 : 0 < x.d) (h6 : 0 < y.d) :
  0 < (ae.fP x y).d /\ ae.nd b (ae.fP x y).n <= 2 * k + 1 /\ ae.nd b (ae.fP x y).d <= 2 * k + 1 := by
 have e1 := ae.iV (b := b) (x := x.n) (y := y.d) hb
 have e2 := ae.iV (b := b) (x := y.n) (y := x.d) hb
 have e3 := ae.iV (b := b) (x := x.d) (y := y.d) hb
 have hp : 0 < x.d * y.d := Nat.mul_pos h5 h6
 have hs : ae.nd b (x.n * y.d + y.n * x.d) <= 2 * k + 1 := by
  refine ae.dX hb ?_
  have a1 := ae.dQ (by omega) (ae.dP hb (x.n * y.d)) (by omega : _ <= 2 * k)
  have a2 := ae.dQ (by omega) (ae.dP hb (y.n * x.d)) (by omega : _ <= 2 * k)
  have : b ^ (2 * k) * 2 <= b ^ (2 * k) * b := Nat.mul_le_mul_left _ hb
  rw [Nat.pow_succ]
  omega
 have m1 := ae.dD hb (Nat.sub_le (x.n * y.d) (y.n * x.d))
 have m2 := ae.dD hb (Nat.sub_le (y.n * x.d) (x.n * y.d))
 unfold ae.fP
 split
 ·exact ⟨hp, hs, by dsimp only; omega⟩
 split
 ·exact ⟨hp, by dsimp only; omega, by dsimp only; omega⟩
 ·exact ⟨hp, by dsimp only; omega, by dsimp only; omega⟩
theorem ae.Xu {b : Nat} (hb : 2 <= b) {x y : ae.Num} {k : Nat} (h1 : ae.nd b x.n <= k) (h2 : ae.nd b x.d <= k) (h3 : ae.nd b y.n <= k) (h4 : ae.nd b y.d <= k) (h5 : 0 < x.d) (h6 : 0 < y.d) :
  0 < (ae.mulN x y).d /\ ae.nd b (ae.mulN x y).n <= 2 * k + 1 /\ ae.nd b (ae.mulN x y).d <= 2 * k + 1 := by
 have e1 := ae.iV (b := b) (x := x.n) (y := y.n) hb
 have e3 := ae.iV (b := b) (x := x.d) (y := y.d) hb
 exact ⟨Nat.mul_pos h5 h6, by dsimp only [ae.mulN]; omega, by dsimp only [ae.mulN]; omega⟩
theorem ae.WE {p : Prop} {a b : Nat} (h : p /\ a <= 2 * 300 + 1 /\ b <= 2 * 300 + 1) : p /\ a <= 1000000 /\ b <= 1000000 := ⟨h.1, by omega, by omega⟩
theorem add_any (f g : ae.Fr) (w : World) (hw : XW w) (hw0 : 0 < w.heap.size) (h1 : f.1.length <= 9223372036854775807) (h2 : f.2.length <= 9223372036854775807) (h3 : g.1.length <= 9223372036854775807) (h4 : g.2.length <= 9223372036854775807) :
  Calls Tryz.prog 115 #[iI f, iI g] w (fQ (ae.oQ f g (ae.fP (ae.az f) (ae.az g)) (0)) (ae.qR f g (ae.fP (ae.az f) (ae.az g)) (0)) w) := by
 have HT := fun (w' : World) (h : BW w w') => two_any 174 (by kernel_rfl) f g (ae.fP (ae.az f) (ae.az g)) (0) w' (hw.below h) (zl hw0 h.size) h1 h2 h3 h4 (fun hE x y w' hw0 hx hy ex ey => by
   obtain ⟨hE1, hE2⟩ := ae.both_ok hE
   obtain ⟨q1, q2, q3⟩ := ae.fZ hE1 (b := 1000000000) (by omega)
   obtain ⟨q4, q5, q6⟩ := ae.fZ hE2 (b := 1000000000) (by omega)
   rw [<- ex] at q1 q2 q3
   rw [<- ey] at q4 q5 q6
   rw [<- ex, <- ey]
   exact Qm x y w' hw0 hx hy (by simp only [bI.num] at q1; omega) (by simp only [bI.num] at q2; omega) (by simp only [bI.num] at q4; omega) (by simp only [bI.num] at q5; omega)) (fun hE he => by
   obtain ⟨hE1, hE2⟩ := ae.both_ok hE
   obtain ⟨q1, q2, q3⟩ := ae.fZ hE1 (b := 1000000000) (by omega)
   obtain ⟨q4, q5, q6⟩ := ae.fZ hE2 (b := 1000000000) (by omega)
   exact ae.WE (ae.XJ (by omega) q1 q2 q4 q5 q3 q6))
 generalize ae.oQ f g (ae.fP (ae.az f) (ae.az g)) (0) = F at *
 generalize ae.qR f g (ae.fP (ae.az f) (ae.az g)) (0) = E at *
 obtain ⟨F1, F2⟩ := F
 obtain ⟨f1, f2⟩ := f
 obtain ⟨g1, g2⟩ := g
 refine yE func115 rfl results115 ntmps115 [] [] [.agg [.str f1, .str f2], .agg [.str g1, .str g2]] w ?_
 repeat' (first | exact ⟨⟩ | refine yG ?_ ?_ | refine yB (.bg [.agg [.str F1, .str F2], .int .i64 E]) (fun _ => HT) ?_ | intro _)
 all_goals rfl
def ae.divN (x y : ae.Num) : ae.Num := if y.n = 0 then ⟨false, 0, 0⟩ else ae.mulN x (ae.Xo y)
def ae.qx (y : ae.Num) : Int := if y.n = 0 then 1 else 0
theorem Ag (f g : ae.Fr) (w : World) (hw : XW w) (hw0 : 0 < w.heap.size) (h1 : f.1.length <= 9223372036854775807) (h2 : f.2.length <= 9223372036854775807) (h3 : g.1.length <= 9223372036854775807) (h4 : g.2.length <= 9223372036854775807) :
  Calls Tryz.prog 112 #[iI f, iI g] w (fQ (ae.oQ f g (ae.divN (ae.az f) (ae.az g)) (ae.qx (ae.az g))) (ae.qR f g (ae.divN (ae.az f) (ae.az g)) (ae.qx (ae.az g))) w) := by
 have HT := fun (w' : World) (h : BW w w') => two_any 171 (by kernel_rfl) f g (ae.divN (ae.az f) (ae.az g)) (ae.qx (ae.az g)) w' (hw.below h) (zl hw0 h.size) h1 h2 h3 h4 (fun hE x y w' hw0 hx hy ex ey => by
   obtain ⟨hE1, hE2⟩ := ae.both_ok hE
   obtain ⟨q1, q2, q3⟩ := ae.fZ hE1 (b := 1000000000) (by omega)
   obtain ⟨q4, q5, q6⟩ := ae.fZ hE2 (b := 1000000000) (by omega)
   rw [<- ex] at q1 q2 q3
   rw [<- ey] at q4 q5 q6
   rw [<- ex, <- ey]
   by_cases h0 : y.num.n = 0
   ·rw [ae.divN, ae.qx, if_pos h0, if_pos h0]
    exact Ot x y w' hw0 hx hy h0 (by simp only [bI.num] at q1; omega) (by simp only [bI.num] at q2; omega) (by simp only [bI.num] at q4; omega) (by simp only [bI.num] at q5; omega)
   ·rw [ae.divN, ae.qx, if_neg h0, if_neg h0]
    exact QW x y w' hw0 hx hy h0 (by simp only [bI.num] at q1; omega) (by simp only [bI.num] at q2; omega) (by simp only [bI.num] at q4; omega) (by simp only [bI.num] at q5; omega)) (fun hE he => by
   obtain ⟨hE1, hE2⟩ := ae.both_ok hE
   obtain ⟨q1, q2, q3⟩ := ae.fZ hE1 (b := 1000000000) (by omega)
   obtain ⟨q4, q5, q6⟩ := ae.fZ hE2 (b := 1000000000) (by omega)
   exact by
    unfold ae.qx at he
    split at he
    ·cases he
    rename_i h0
    rw [ae.divN, if_neg h0]
    exact ae.WE (ae.Xu (by omega) q1 q2 q5 q4 q3 (Nat.pos_of_ne_zero h0)))
 generalize ae.oQ f g (ae.divN (ae.az f) (ae.az g)) (ae.qx (ae.az g)) = F at *
 generalize ae.qR f g (ae.divN (ae.az f) (ae.az g)) (ae.qx (ae.az g)) = E at *
 obtain ⟨F1, F2⟩ := F
 obtain ⟨f1, f2⟩ := f
 obtain ⟨g1, g2⟩ := g
 refine yE func112 rfl results112 ntmps112 [] [] [.agg [.str f1, .str f2], .agg [.str g1, .str g2]] w ?_
 repeat' (first | refine yX ?_ | (apply And.intro <;> intro _) | apply gK | refine jO fun β => ?_ | intro βe | refine yB (.bg [.agg [.str F1, .str F2], .int .i64 E]) (fun _ => HT) ?_ | exact trivial)
 all_goals rfl
def ae.oV (x : ae.Num) : Int := if x.n = 0 then 0 else if x.m = true then -1 else 1
theorem Sym.mD {C : Ctx} {G : eU} {x : Operand} {t : TypeId} {a : Addr} {j : Nat} {xs : List Value} (i : Nat) (v : SV) {Φ : Nat -> Option Obj -> Prop} (hag : ∀ w, (isAgg t).run C.P w = .ok false w) (ri : G i = some Φ) (hΦ : ∀ b o, Φ b o -> G7 (some a) xs b o) (hv : ∀ β, xs[j]? = some (v.den β)) :
  dH C G (.load t x) [.any (.pointer (some (a.add j)))] v := by
 unfold dH
 intro ρ β w dst ty pos after gd _ hG h
 have e1 : ρ x = .pointer (some (a.add j)) := by simpa [jg, SV.aF, SV.den] using h
 obtain ⟨h1, h2⟩ := hG i _ ri
 obtain ⟨ad, e, _, hc⟩ := hΦ _ _ h2 w rfl j _ (hv β)
 cases e
 simp [execOp, Instr.loadAt, Instr.sureAddr, e1, loadVar, hag, hc]
theorem Sym.Mem.NU {base : Nat} {w0 : Base} {rows : List (Nat × Bool × aV)} {nx : Nat} {β : Nat -> Nat} {w : World} (hm : Mem base w0 rows nx β w) (j : Nat) {o : Bool} {bs : Nat} {L : List (Option Addr)} {a : Option Addr} {xs : List Value} (hj : get rows j = some (o, .aK (X6 bs L a xs))) : aS a xs w :=
 (hm.row j _ _ hj).1.2.1.at (hm.row j _ _ hj).1.1
theorem ae.UG {x y : Nat} : ae.rq x y < 0 ↔ x < y := by
 unfold ae.rq
 split
 ·constructor <;> intro h <;> omega
 ·split <;> constructor <;> intro h <;> omega
theorem ae.Wh {x n k : Nat} (h : x < 10 ^ n) (h2 : 2 ^ k <= x) : k <= 4 * n := by
 have h3 : (10 : Nat) ^ n <= 16 ^ n := Nat.pow_le_pow_left (by omega) n
 have h4 : (16 : Nat) ^ n = 2 ^ (4 * n) := by rw [Nat.pow_mul]
 rcases Nat.lt_or_ge (4 * n) k with h5 | h5
 ·have := Nat.pow_lt_pow_right (show 1 < 2 by omega) h5
  omega
 ·exact h5
theorem ae.Yt (x : Nat) : ae.bu 10 0 x = x % 10 := by simp [ae.bu]
abbrev gJ (base : Nat) (L : List (Option Addr)) (tw : Nat) (t : Ws) : St := ⟨[(0, .any (.slice t.a (ae.nd 10 t.u) t.c)), (1, .any (.slice t.b (ae.nd 10 t.v) t.d)), (5, .int .i64 (tw : Nat))], [(0, false, .aK (X6 base L t.a (nv .i64 10 t.u))), (1, false, .aK (X6 base L t.b (nv .i64 10 t.v)))], 2, 71⟩
structure Zm (M : Nat) (t : Ws) : Prop where
 hu : t.u <= M
 hv : t.v <= M
 ha : t.a = none -> t.c = 0
 hc : ae.nd 10 t.u <= t.c
 hb : t.b = none -> t.d = 0
 hd : ae.nd 10 t.v <= t.d
theorem CB (L : List (Option Addr)) (a b : Option Addr) (ca cb x y : Nat) (w : World) (hw0 : 0 < w.heap.size) (hx : ae.nd 10 x <= 10000000) (hy : ae.nd 10 y <= 10000000) (ha : a = none -> ca = 0) (hca : ae.nd 10 x <= ca) (hb : b = none -> cb = 0) (hcb : ae.nd 10 y <= cb) (hLa : 0 < x -> a ∈ L) (hLb : 0 < y -> b ∈ L) (hs : aS a (nv .i64 10 x) w) (ht : aS b (nv .i64 10 y) w) :
  Calls Tryz.prog 137 #[.slice a (ae.nd 10 x) ca, .slice b (ae.nd 10 y) cb] w (Kq L .i64 10 (Nat.gcd x y) w) := by
 have mZ : ∀ z, 0 < z -> 0 < ae.nd 10 z := fun z h => (ae.fM (by omega)).2 h
 refine yE func137 rfl results137 ntmps137 [] [] [.any (.slice a (ae.nd 10 x) ca), .any (.slice b (ae.nd 10 y) cb)] w ?_
 by_cases hx0 : x = 0
 ·subst hx0
  have h0 := ae.aT 10
  rw [Nat.gcd_zero_left]
  repeat' (first | exact ⟨⟩ | refine yG ?_ ?_ | refine yO (aJ underlying70) ?_ | intro _)
  ·exact ret fun β w' hm => ⟨b, cb, rfl, ht.below hm.below, Ik hLb, hb, hcb, hm.below⟩
  all_goals (exfalso; omega)
 by_cases hy0 : y = 0
 ·subst hy0
  have h0 := ae.aT 10
  have := mZ x (by omega)
  rw [Nat.gcd_zero_right]
  repeat' (first | exact ⟨⟩ | refine yG ?_ ?_ | refine yO (aJ underlying70) ?_ | intro _)
  ·exact ret fun β w' hm => ⟨a, ca, rfl, hs.below hm.below, Ik hLa, ha, hca, hm.below⟩
 have hxp := mZ x (by omega)
 have hyp := mZ y (by omega)
 obtain ⟨M, hM⟩ : ∃ M, M = max x y := ⟨_, rfl⟩
 have hMn : ae.nd 10 M <= 10000000 := by
  rcases Nat.le_total x y with h | h
  ·rw [hM, Nat.max_eq_right h]; exact hy
  ·rw [hM, Nat.max_eq_left h]; exact hx
 have hMl := ae.dP (b := 10) (by omega) M
 have KU : ∀ z, z <= M -> ae.nd 10 z <= 10000000 := fun z h => Nat.le_trans (ae.dD (by omega) h) hMn
 have hpre : ∀ z, 0 < z -> (nv .i64 10 z)[0]? = some (.int .i64 ((z % 10 : Nat) : Int)) := fun z h => by rw [eQ (mZ z h), ae.Yt]
 have HF := fun (a1 : Option Addr) (c1 u : Nat) (w' : World) (h : u <= M) hs' => Iz a1 c1 u w' (by have := KU u h; omega) hs'
 have HCM := fun (a1 b1 : Option Addr) (c1 d1 u v : Nat) (w' : World) (h : u <= M) (h' : v <= M) hs' ht' => l7 a1 b1 c1 d1 u v w' (by have := KU u h; omega) (by have := KU v h'; omega) hs' ht'
 have HLS := fun (a1 b1 : Option Addr) (c1 d1 u v : Nat) (w' : World) (h : u <= M) (h' : v <= M) (hle : v <= u) hs' ht' => uh a1 b1 c1 d1 u v w' (by have := KU u h; omega) (by have := KU v h'; omega) hle hs' ht'
 repeat' (first | exact ⟨⟩ | refine yG ?_ ?_ | refine yO (aJ underlying70) ?_ | intro _)
 refine ou a (nv .i64 10 x) hw0 rfl hs ?_
 refine ou b (nv .i64 10 y) hw0 rfl ht ?_
 refine loop bF rfl (T := {t : Nat × Ws // Zm M t.2 /\ t.2.u * 2 ^ t.1 = x /\ t.2.v * 2 ^ t.1 = y}) (fun t => gJ w.heap.size L t.1.1 t.1.2) (fun t => t.1.2.u) ⟨(0, ⟨x, y, a, ca, b, cb⟩), ⟨by dsimp only; omega, by dsimp only; omega, ha, hca, hb, hcb⟩, by simp, by simp⟩ 1000 [] [] (fun _ => by exact Nat.zero_le _) (by dsimp only [gJ]; ((with_reducible show wk _ _); repeat' (first | exact trivial | exact au _ | refine eY ?_ | refine eqS ?_ | apply And.intro | exact yV | fail)); all_goals exact fun b x h => ⟨h, (by first | exact Gs hLa | exact Gs hLb)⟩) (fun t I hI => ?_)
 obtain ⟨⟨tw, ⟨u, v, a1, c1, b1, d1⟩⟩, ⟨hu, hv, ha1, hc1, hb1, hd1⟩, Ya, Y0⟩ := t
 dsimp only [gJ] at hu hv ha1 hc1 hb1 hd1 Ya Y0 ⊢
 have hu0 : 0 < u := by rcases Nat.eq_zero_or_pos u with h | h; (subst h; simp at Ya; omega); exact h
 have hv0 : 0 < v := by rcases Nat.eq_zero_or_pos v with h | h; (subst h; simp at Y0; omega); exact h
 have Rz := mZ u hu0
 have YY := mZ v hv0
 have htw : tw <= 40000000 := by
  have h1 : 2 ^ tw <= x := by rw [<- Ya]; exact Nat.le_mul_of_pos_left _ hu0
  have := ae.Wh (n := ae.nd 10 M) (x := x) (k := tw) (by omega) h1
  omega
 have hsome : ∀ (q : Option Addr) (qc z : Nat), 0 < z -> (q = none -> qc = 0) -> ae.nd 10 z <= qc -> ∃ ad, q = some ad := fun q qc z hz hq hqc => by
  cases q with
  | none => have := mZ z hz; have := hq rfl; omega
  | some ad => exact ⟨ad, rfl⟩
 obtain ⟨Yl, rfl⟩ := hsome a1 c1 u hu0 ha1 hc1
 obtain ⟨Wv, rfl⟩ := hsome b1 d1 v hv0 hb1 hd1
 by_cases hev : 2 ∣ u /\ 2 ∣ v
 ·obtain ⟨e1, e2⟩ := hev
  have ZH := fun w' => HF (some Yl) c1 u w' hu
  have ZI := fun w' => HF (some Wv) d1 v w' hv
  repeat' (first | exact ⟨⟩ | refine yG ?_ ?_ | (refine aH .i64 10 (u / 2) hw0 (by kernel_rfl) rfl (fun β w' hm => ZH w' (Mem.NU hm 0 rfl)) (fun ua uc h1 h2 h3 => ?_)) | (refine aH .i64 10 (v / 2) hw0 (by kernel_rfl) rfl (fun β w' hm => ZI w' (Mem.NU hm 1 rfl)) (fun va vc h4 h5 h6 => ?_)) | refine yO (aJ underlying70) ?_ | refine yN (j := 0) underlying70 sizeOf3 ?_ | refine yO (jv (by omega) (by omega)) ?_ | refine yO (v := .int .i64 ((u % 10 : Nat) : Int)) (Sym.mD 0 (.int .i64 ((u % 10 : Nat) : Int)) (fun w => isAgg3 w) rfl (fun b o h => h.1) (fun β => by rw [Nat.zero_mul]; exact hpre u hu0)) ?_ | refine yO (v := .int .i64 ((v % 10 : Nat) : Int)) (Sym.mD 1 (.int .i64 ((v % 10 : Nat) : Int)) (fun w => isAgg3 w) rfl (fun b o h => h.1) (fun β => by rw [Nat.zero_mul]; exact hpre v hv0)) ?_ | intro _)
  refine ai 0 2 rfl rfl rfl (Nat.zero_le _) (by kernel_rfl) ?_
  refine ai 1 3 rfl rfl rfl (Nat.zero_le _) (by kernel_rfl) ?_
  refine hI _ ⟨(tw + 1, ⟨u / 2, v / 2, ua, uc, va, vc⟩), ⟨by dsimp only; omega, by dsimp only; omega, h1, h2, h4, h5⟩, by dsimp only; rw [Nat.pow_succ, <- Ya, Nat.mul_comm (2 ^ tw) 2, <- Nat.mul_assoc, Nat.div_mul_cancel e1], by dsimp only; rw [Nat.pow_succ, <- Y0, Nat.mul_comm (2 ^ tw) 2, <- Nat.mul_assoc, Nat.div_mul_cancel e2]⟩ (by dsimp only; omega) (by dsimp only [gJ]; ((with_reducible show wk _ _); repeat' (first | exact trivial | exact au _ | refine eY ?_ | refine eqS ?_ | apply And.intro | exact yV | fail)); all_goals exact fun b x h => ⟨h.1, .inl h.2⟩)
 have hodd : ¬ 2 ∣ Nat.gcd u v := fun h => hev ⟨Nat.dvd_trans h (Nat.gcd_dvd_left _ _), Nat.dvd_trans h (Nat.gcd_dvd_right _ _)⟩
 have hfin : Nat.gcd x y = Nat.gcd u v * 2 ^ tw := by rw [<- Ya, <- Y0, Nat.gcd_mul_right]
 have hgM : Nat.gcd u v * 2 ^ tw <= M := by
  rw [<- hfin]
  have := Nat.gcd_le_left y (by omega : 0 < x)
  omega
 have Xh : ((u % 10 : Nat) : Int) % 2 = 0 ↔ 2 ∣ u := by omega
 have YP : ((v % 10 : Nat) : Int) % 2 = 0 ↔ 2 ∣ v := by omega
 rw [hfin]
 generalize hg : Nat.gcd u v = g at *
 repeat' (first | exact ⟨⟩ | refine yG ?_ ?_ | refine yO (aJ underlying70) ?_ | refine yN (j := 0) underlying70 sizeOf3 ?_ | refine yO (jv (by omega) (by omega)) ?_ | refine yO (v := .int .i64 ((u % 10 : Nat) : Int)) (Sym.mD 0 (.int .i64 ((u % 10 : Nat) : Int)) (fun w => isAgg3 w) rfl (fun b o h => h.1) (fun β => by rw [Nat.zero_mul]; exact hpre u hu0)) ?_ | refine yO (v := .int .i64 ((v % 10 : Nat) : Int)) (Sym.mD 1 (.int .i64 ((v % 10 : Nat) : Int)) (fun w => isAgg3 w) rfl (fun b o h => h.1) (fun β => by rw [Nat.zero_mul]; exact hpre v hv0)) ?_ | intro _)
 all_goals (
  refine loop bF rfl (T := {t : Ws // Zm M t /\ 0 < t.v /\ Nat.gcd t.u t.v = g}) (fun t => gJ w.heap.size L tw t.1) (fun t => t.1.u + t.1.v) ⟨⟨u, v, some Yl, c1, some Wv, d1⟩, ⟨hu, hv, ha1, hc1, hb1, hd1⟩, hv0, hg⟩ 1000 [] [] (fun _ => by exact Nat.zero_le _) (by dsimp only [gJ]; ((with_reducible show wk _ _); repeat' (first | exact trivial | exact au _ | refine eY ?_ | refine eqS ?_ | apply And.intro | exact yV | fail)); all_goals exact fun b x h => h) (fun t I2 hI2 => ?_)
  clear hI
  clear Ya Y0 Xh YP hev hu0 hv0 Rz YY hu hv ha1 hc1 hb1 hd1 hfin
  obtain ⟨⟨u, v, a1, c1, b1, d1⟩, ⟨hu, hv, ha1, hc1, hb1, hd1⟩, hv0, hg⟩ := t
  dsimp only [gJ] at hu hv ha1 hc1 hb1 hd1 hv0 hg ⊢
  by_cases hu0 : u = 0
  ·subst hu0
   have h0 := ae.aT 10
   rw [Nat.gcd_zero_left] at hg
   subst hg
   repeat' (first | exact ⟨⟩ | refine yG ?_ ?_ | refine yO (aJ underlying70) ?_ | intro _)
   refine loop bF rfl (T := {t : Nat × Option Addr × Nat // t.1 <= tw /\ (t.2.1 = none -> t.2.2 = 0) /\ ae.nd 10 (v * 2 ^ t.1) <= t.2.2}) (fun t => ⟨[(1, .any (.slice t.1.2.1 (ae.nd 10 (v * 2 ^ t.1.1)) t.1.2.2)), (63, .int .i64 (tw : Nat)), (64, .int .i64 (t.1.1 : Nat))], [(1, false, .aK (X6 w.heap.size L t.1.2.1 (nv .i64 10 (v * 2 ^ t.1.1))))], 2, 71⟩) (fun t => tw - t.1.1) ⟨(0, b1, d1), Nat.zero_le _, hb1, by dsimp only; rw [Nat.pow_zero, Nat.mul_one]; exact hd1⟩ 1000 [] [] (fun _ => by exact Nat.zero_le _) (by dsimp only; rw [Nat.pow_zero, Nat.mul_one]; ((with_reducible show wk _ _); repeat' (first | exact trivial | exact au _ | refine eY ?_ | refine eqS ?_ | apply And.intro | exact yV | fail)); all_goals exact fun b x h => h) (fun t I3 Wy => ?_)
   obtain ⟨⟨k, b2, d2⟩, hk, hb2, hd2⟩ := t
   dsimp only at hk hb2 hd2 ⊢
   by_cases hkt : k < tw
   ·have hz : v * 2 ^ k <= M := Nat.le_trans (Nat.mul_le_mul_left _ (Nat.pow_le_pow_right (by omega) (by omega))) hgM
    have HP := fun w' => yx b2 b2 d2 d2 (v * 2 ^ k) (v * 2 ^ k) w' (by have := KU _ hz; omega) (by have := KU _ hz; omega)
    have e : v * 2 ^ k + v * 2 ^ k = v * 2 ^ (k + 1) := by rw [Nat.pow_succ, <- Nat.mul_assoc]; omega
    rw [e] at HP
    repeat' (first | exact ⟨⟩ | refine yG ?_ ?_ | (refine aH .i64 10 (v * 2 ^ (k + 1)) hw0 (by kernel_rfl) rfl (fun β w' hm => HP w' (Mem.NU hm 1 rfl) (Mem.NU hm 1 rfl)) (fun ua uc h1 h2 h3 => ?_)) | intro _)
    refine ai 1 2 rfl rfl rfl (Nat.zero_le _) (by kernel_rfl) ?_
    refine Wy _ ⟨(k + 1, ua, uc), by dsimp only; omega, h1, h2⟩ (by dsimp only; omega) (by dsimp only; ((with_reducible show wk _ _); repeat' (first | exact trivial | exact au _ | refine eY ?_ | refine eqS ?_ | apply And.intro | exact yV | fail)); all_goals exact fun b x h => ⟨h.1, .inl h.2⟩)
   ·obtain rfl : k = tw := by omega
    repeat' (first | exact ⟨⟩ | refine yG ?_ ?_ | intro _)
    refine ret fun β w' hm => ?_
    obtain ⟨q1, -, -, -⟩ := hm.row 1 _ _ rfl
    refine ⟨b2, d2, rfl, q1.2.1.at q1.1, q1.2.2.imp (fun h => ?_) id, hb2, hd2, hm.below⟩
    exact bV.fresh (w := w') ⟨q1.2.1, h⟩ rfl
  have hu0 : 0 < u := Nat.pos_of_ne_zero hu0
  have Rz := mZ u hu0
  repeat' (first | exact ⟨⟩ | refine yG ?_ ?_ | refine yO (aJ underlying70) ?_ | intro _)
  refine loop bF rfl (T := {t : Ws // Zm M t /\ (0 < t.u /\ 0 < t.v) /\ Nat.gcd t.u t.v = g /\ t.u + t.v <= u + v}) (fun t => gJ w.heap.size L tw t.1) (fun t => t.1.u) ⟨⟨u, v, a1, c1, b1, d1⟩, ⟨hu, hv, ha1, hc1, hb1, hd1⟩, ⟨hu0, hv0⟩, hg, Nat.le_refl _⟩ 1000 [] [] (fun _ => by exact Nat.zero_le _) (by dsimp only [gJ]; ((with_reducible show wk _ _); repeat' (first | exact trivial | exact au _ | refine eY ?_ | refine eqS ?_ | apply And.intro | exact yV | fail)); all_goals exact fun b x h => h) (fun t I3 Wy => ?_)
  generalize hS : u + v = S at *
  clear Rz hv0 hu0 hg hS hu hv ha1 hc1 hb1 hd1
  obtain ⟨⟨u, v, a1, c1, b1, d1⟩, ⟨hu, hv, ha1, hc1, hb1, hd1⟩, ⟨hu0, hv0⟩, hg, hS⟩ := t
  dsimp only [gJ] at hu hv ha1 hc1 hb1 hd1 hu0 hv0 hg hS ⊢
  have Rz := mZ u hu0
  obtain ⟨Yl, rfl⟩ := hsome a1 c1 u hu0 ha1 hc1
  have Xh : ((u % 10 : Nat) : Int) % 2 = 0 ↔ 2 ∣ u := by omega
  by_cases heu : 2 ∣ u
  ·have ZH := fun w' => HF (some Yl) c1 u w' hu
   have hg2 : Nat.gcd (u / 2) v = g := by
    have e : 2 * (u / 2) = u := Nat.mul_div_cancel' heu
    rw [ae.Il (by rw [e, hg]; exact hodd), e, hg]
   repeat' (first | exact ⟨⟩ | refine yG ?_ ?_ | (refine aH .i64 10 (u / 2) hw0 (by kernel_rfl) rfl (fun β w' hm => ZH w' (Mem.NU hm 0 rfl)) (fun ua uc h1 h2 h3 => ?_)) | refine yO (aJ underlying70) ?_ | refine yN (j := 0) underlying70 sizeOf3 ?_ | refine yO (jv (by omega) (by omega)) ?_ | refine yO (v := .int .i64 ((u % 10 : Nat) : Int)) (Sym.mD 0 (.int .i64 ((u % 10 : Nat) : Int)) (fun w => isAgg3 w) rfl (fun b o h => h.1) (fun β => by rw [Nat.zero_mul]; exact hpre u hu0)) ?_ | intro _)
   refine ai 0 2 rfl rfl rfl (Nat.zero_le _) (by kernel_rfl) ?_
   refine Wy _ ⟨⟨u / 2, v, ua, uc, b1, d1⟩, ⟨by dsimp only; omega, by dsimp only; omega, h1, h2, hb1, hd1⟩, ⟨by dsimp only; omega, hv0⟩, hg2, by dsimp only; omega⟩ (by dsimp only; omega) (by dsimp only [gJ]; ((with_reducible show wk _ _); repeat' (first | exact trivial | exact au _ | refine eY ?_ | refine eqS ?_ | apply And.intro | exact yV | fail)); all_goals first | exact fun b x h => h | exact fun b x h => ⟨h.1, .inl h.2⟩)
  repeat' (first | exact ⟨⟩ | refine yG ?_ ?_ | refine yO (aJ underlying70) ?_ | refine yN (j := 0) underlying70 sizeOf3 ?_ | refine yO (jv (by omega) (by omega)) ?_ | refine yO (v := .int .i64 ((u % 10 : Nat) : Int)) (Sym.mD 0 (.int .i64 ((u % 10 : Nat) : Int)) (fun w => isAgg3 w) rfl (fun b o h => h.1) (fun β => by rw [Nat.zero_mul]; exact hpre u hu0)) ?_ | intro _)
  refine loop bF rfl (T := {t : Ws // Zm M t /\ (0 < t.u /\ 0 < t.v) /\ Nat.gcd t.u t.v = g /\ t.u + t.v <= S}) (fun t => gJ w.heap.size L tw t.1) (fun t => t.1.v) ⟨⟨u, v, some Yl, c1, b1, d1⟩, ⟨hu, hv, ha1, hc1, hb1, hd1⟩, ⟨hu0, hv0⟩, hg, hS⟩ 1000 [] [] (fun _ => by exact Nat.zero_le _) (by dsimp only [gJ]; ((with_reducible show wk _ _); repeat' (first | exact trivial | exact au _ | refine eY ?_ | refine eqS ?_ | apply And.intro | exact yV | fail)); all_goals exact fun b x h => h) (fun t I4 ZR => ?_)
  clear Xh heu Rz hv0 hu0 hg hS hu hv ha1 hc1 hb1 hd1 Wy
  obtain ⟨⟨u, v, a1, c1, b1, d1⟩, ⟨hu, hv, ha1, hc1, hb1, hd1⟩, ⟨hu0, hv0⟩, hg, hS⟩ := t
  dsimp only [gJ] at hu hv ha1 hc1 hb1 hd1 hu0 hv0 hg hS ⊢
  have YY := mZ v hv0
  obtain ⟨Wv, rfl⟩ := hsome b1 d1 v hv0 hb1 hd1
  have YP : ((v % 10 : Nat) : Int) % 2 = 0 ↔ 2 ∣ v := by omega
  by_cases hev2 : 2 ∣ v
  ·have ZI := fun w' => HF (some Wv) d1 v w' hv
   have hg2 : Nat.gcd u (v / 2) = g := by
    have e : 2 * (v / 2) = v := Nat.mul_div_cancel' hev2
    rw [ae.Oz (by rw [e, hg]; exact hodd), e, hg]
   repeat' (first | exact ⟨⟩ | refine yG ?_ ?_ | (refine aH .i64 10 (v / 2) hw0 (by kernel_rfl) rfl (fun β w' hm => ZI w' (Mem.NU hm 1 rfl)) (fun ua uc h1 h2 h3 => ?_)) | refine yO (aJ underlying70) ?_ | refine yN (j := 0) underlying70 sizeOf3 ?_ | refine yO (jv (by omega) (by omega)) ?_ | refine yO (v := .int .i64 ((v % 10 : Nat) : Int)) (Sym.mD 1 (.int .i64 ((v % 10 : Nat) : Int)) (fun w => isAgg3 w) rfl (fun b o h => h.1) (fun β => by rw [Nat.zero_mul]; exact hpre v hv0)) ?_ | intro _)
   refine ai 1 2 rfl rfl rfl (Nat.zero_le _) (by kernel_rfl) ?_
   refine ZR _ ⟨⟨u, v / 2, a1, c1, ua, uc⟩, ⟨by dsimp only; omega, by dsimp only; omega, ha1, hc1, h1, h2⟩, ⟨hu0, by dsimp only; omega⟩, hg2, by dsimp only; omega⟩ (by dsimp only; omega) (by dsimp only [gJ]; ((with_reducible show wk _ _); repeat' (first | exact trivial | exact au _ | refine eY ?_ | refine eqS ?_ | apply And.intro | exact yV | fail)); all_goals first | exact fun b x h => h | exact fun b x h => ⟨h.1, .inl h.2⟩)
  have hcl := ae.UG (x := u) (y := v)
  have HC := fun w' => HCM a1 (some Wv) c1 d1 u v w' hu hv
  generalize ae.rq u v = cv at *
  by_cases hlt : u < v
  ·have HL := fun w' => HLS (some Wv) a1 d1 c1 v u w' hv hu (by omega)
   have hg2 : Nat.gcd (v - u) u = g := by rw [Nat.gcd_sub_self_left (by omega), Nat.gcd_comm, hg]
   repeat' (first | exact ⟨⟩ | refine yG ?_ ?_ | refine yK (.int .i64 cv) (fun β w hm => HC w (Mem.NU hm 0 rfl) (Mem.NU hm 1 rfl)) ?_ | (refine aH .i64 10 (v - u) hw0 (by kernel_rfl) rfl (fun β w' hm => HL w' (Mem.NU hm 1 rfl) (Mem.NU hm 0 rfl)) (fun ua uc h1 h2 h3 => ?_)) | refine yO (aJ underlying70) ?_ | refine yN (j := 0) underlying70 sizeOf3 ?_ | refine yO (jv (by omega) (by omega)) ?_ | refine yO (v := .int .i64 ((v % 10 : Nat) : Int)) (Sym.mD 1 (.int .i64 ((v % 10 : Nat) : Int)) (fun w => isAgg3 w) rfl (fun b o h => h.1) (fun β => by rw [Nat.zero_mul]; exact hpre v hv0)) ?_ | intro _)
   refine ai 1 0 rfl rfl rfl (Nat.zero_le _) (by kernel_rfl) ?_
   refine ai 0 2 rfl rfl rfl (Nat.zero_le _) (by kernel_rfl) ?_
   refine hI2 _ ⟨⟨v - u, u, ua, uc, a1, c1⟩, ⟨by dsimp only; omega, by dsimp only; omega, h1, h2, ha1, hc1⟩, hu0, hg2⟩ (by dsimp only; omega) (by dsimp only [gJ]; ((with_reducible show wk _ _); repeat' (first | exact trivial | exact au _ | refine eY ?_ | refine eqS ?_ | apply And.intro | exact yV | fail)); all_goals first | exact fun b x h => h | exact fun b x h => ⟨h.1, .inl h.2⟩)
  ·have HL := fun w' => HLS a1 (some Wv) c1 d1 u v w' hu hv (by omega)
   have hg2 : Nat.gcd (u - v) v = g := by rw [Nat.gcd_sub_self_left (by omega), hg]
   repeat' (first | exact ⟨⟩ | refine yG ?_ ?_ | refine yK (.int .i64 cv) (fun β w hm => HC w (Mem.NU hm 0 rfl) (Mem.NU hm 1 rfl)) ?_ | (refine aH .i64 10 (u - v) hw0 (by kernel_rfl) rfl (fun β w' hm => HL w' (Mem.NU hm 0 rfl) (Mem.NU hm 1 rfl)) (fun ua uc h1 h2 h3 => ?_)) | refine yO (aJ underlying70) ?_ | refine yN (j := 0) underlying70 sizeOf3 ?_ | refine yO (jv (by omega) (by omega)) ?_ | refine yO (v := .int .i64 ((v % 10 : Nat) : Int)) (Sym.mD 1 (.int .i64 ((v % 10 : Nat) : Int)) (fun w => isAgg3 w) rfl (fun b o h => h.1) (fun β => by rw [Nat.zero_mul]; exact hpre v hv0)) ?_ | intro _)
   refine ai 0 2 rfl rfl rfl (Nat.zero_le _) (by kernel_rfl) ?_
   refine hI2 _ ⟨⟨u - v, v, ua, uc, some Wv, d1⟩, ⟨by dsimp only; omega, by dsimp only; omega, h1, h2, hb1, hd1⟩, hv0, hg2⟩ (by dsimp only; omega) (by dsimp only [gJ]; ((with_reducible show wk _ _); repeat' (first | exact trivial | exact au _ | refine eY ?_ | refine eqS ?_ | apply And.intro | exact yV | fail)); all_goals first | exact fun b x h => h | exact fun b x h => ⟨h.1, .inl h.2⟩))
end Go.Proofs.YtdkhkfdenlabaaaGreatDoor
