/- Values, the reference: numbers shown. -/
import Derived.Test.YtdkhkfdenlabaaaGreatDoorVGG
import Derived.Test.YtdkhkfdenlabaaaGreatDoorVGR
import Derived.Test.YtdkhkfdenlabaaaGreatDoorVGJ
import Derived.Test.YtdkhkfdenlabaaaGreatDoorVGP
set_option linter.unusedSimpArgs false
set_option linter.unusedVariables false
set_option maxRecDepth 100000
set_option maxHeartbeats 64000000
namespace Go.Proofs.YtdkhkfdenlabaaaGreatDoor
open Go.Proofs.Tryz
open Go.RowKit
open Sym
attribute [local irreducible] Calls Sym.bM ae.nd ae.bu ae.upd ae.ak ae.ay
theorem af.UU (x : ae.Num) (k : Nat) (hk : 0 < k) : 46 ∈ ae.jo x k := by
 have h : 46 ∈ ae.Be (ae.ny (Lib.decDigits x.n) k) k := by
  unfold ae.Be
  rw [if_pos hk]
  simp
 unfold ae.jo
 dsimp only
 split
 ·exact List.mem_cons_of_mem _ h
 ·exact h
theorem af.Cb {f : ae.Fr} (h : ae.bQ f = 0) (hm : (ae.az f).m = true) : (ae.az f).n ≠ 0 := by
 have h1 := h
 unfold ae.bQ at h1
 split at h1
 ·omega
 rename_i hb
 simp only [not_or, Bool.not_eq_false] at hb
 have hne : (ae.aO f.1).1 ≠ [48] := fun h0 => hb.2.2.2 ⟨h0, hm⟩
 exact Nat.ne_of_gt (ae.wY hb.1 hne)
theorem af.RQ (x : ae.Num) : (ae.dA x).d = 1 := rfl
theorem af.round_eq (x : ae.Num) : ae.jq x 12 = ae.aG (ae.dA (ae.aG x 12)) (-12) := rfl
theorem af.Tj {x : ae.Num} (q1 : ae.nd 10 x.n <= 300) (q2 : ae.nd 10 x.d <= 300) (q3 : 0 < x.d) : ae.nd 10 (ae.jq x 12).n <= 400 /\ ae.nd 10 (ae.jq x 12).d <= 400 /\ 0 < (ae.jq x 12).d := by
 obtain ⟨e1, e2, e3, -⟩ := ae.lh (b := 10) (x := x) (k := 12) (K := 12) (by omega) q1 q2 (by omega) q3
 have e5 := ae.tZ (b := 10) (by omega) e1 e2
 have e6 : ae.nd 10 (ae.dA (ae.aG x 12)).d <= 300 + (12 + 1) + 2 := by
  rw [af.RQ, ae.wI (b := 10) (x := 1) (n := 1) (by omega) (by omega) (.inr (by omega))]; omega
 obtain ⟨g1, g2, g3, -⟩ := ae.lh (b := 10) (x := ae.dA (ae.aG x 12)) (k := -12) (K := 12) (by omega) e5 e6 (by omega) (by rw [af.RQ]; exact Nat.one_pos)
 rw [af.round_eq]
 omega
theorem bI.Vs (V : ae.Num) (a : Option Addr) (c : Nat) (b : Option Addr) (e : Nat) : bI.num ⟨V.m, V.n, V.d, a, c, b, e⟩ = V := rfl
structure TzI (X s : List UInt8) : Prop where
 eq : Lib.trimRightB s 48 = Lib.trimRightB X 48
 dot : 46 ∈ s
 le : s.length <= 10000
theorem NZ {s : List UInt8} (h : 46 ∈ s) :
  (((s.getD (s.length - 1) 0).toNat : Int) = 48 -> Lib.trimRightB s 48 = Lib.trimRightB (s.take (s.length - 1)) 48 /\ 46 ∈ s.take (s.length - 1)) /\
  (¬ ((s.getD (s.length - 1) 0).toNat : Int) = 48 -> Lib.trimRightB s 48 = s) /\
  (¬ ((s.getD (s.length - 1) 0).toNat : Int) = 48 -> (((s.getD (s.length - 1) 0).toNat : Int) = 46 -> Lib.trimSuffix s [46] = s.take (s.length - 1)) /\ (¬ ((s.getD (s.length - 1) 0).toNat : Int) = 46 -> Lib.trimSuffix s [46] = s)) := by
 obtain ⟨l, c, rfl⟩ : ∃ l c, s = l ++ [c] := ⟨s.dropLast, s.getLast (List.ne_nil_of_mem h), (List.dropLast_concat_getLast _).symm⟩
 have e1 : (l ++ [c]).length - 1 = l.length := by simp
 have e2 : (l ++ [c]).getD l.length 0 = c := by simp
 have e3 : (l ++ [c]).take l.length = l := by simp
 rw [e1, e2, e3]
 refine ⟨fun hc => ?_, fun hc => ?_, fun _ => ⟨fun hc => ?_, fun hc => ?_⟩⟩
 ·obtain rfl : c = 48 := UInt8.toNat_inj.1 (by simpa using Int.ofNat.inj hc)
  refine ⟨by simp [Lib.trimRightB], ?_⟩
  simpa using h
 ·have : ¬ c = 48 := fun h => hc (by rw [h]; rfl)
  simp [Lib.trimRightB, this]
 ·obtain rfl : c = 46 := UInt8.toNat_inj.1 (by simpa using Int.ofNat.inj hc)
  simp [Lib.trimSuffix, Lib.hasSuffix]
 ·have : ¬ c = 46 := fun h => hc (by rw [h]; rfl)
  simp [Lib.trimSuffix, Lib.hasSuffix, this]
  exact fun h => this h.symm
section
variable (tx : List UInt8) (on : Bool) (cd rw' cl : Int) (sl : Option Addr) (sn sc : Nat) (f1 f2 : List UInt8) (w : World) (hw0 : 0 < w.heap.size) (V U : ae.Num) (K : Nat) (pl E : Int) (A X F1 F2 R R2 : List UInt8)
 (lA : A.length <= 10000) (lX : X.length <= 10000) (Xg : 46 ∈ X)
 (hpl : pl = (K : Int) /\ (A.length <= 40 -> R = A) /\ (¬ A.length <= 40 -> R = R2) \/ pl = -1 /\ R = R2) (hE0 : E = 0 -> R2 = af.oP X) (hE1 : E ≠ 0 -> R2 = [35, 78, 85, 77, 33])
 (RO : ∀ w', BW w w' -> Calls Tryz.prog 99 #[iI (f1, f2)] w' (fF .i64 10 V w'))
 (PL : ∀ a c b e w', BW w w' -> aX .i64 10 ⟨V.m, V.n, V.d, a, c, b, e⟩ w' -> QC 100 #[bI.val 10 ⟨V.m, V.n, V.d, a, c, b, e⟩] w' (.int .i64 pl))
 (FK : ∀ a c b e w', BW w w' -> aX .i64 10 ⟨V.m, V.n, V.d, a, c, b, e⟩ w' -> QC 101 #[bI.val 10 ⟨V.m, V.n, V.d, a, c, b, e⟩, .int .i64 (K : Int)] w' (.string (ah A)))
 (ZG : ∀ a c b e w', BW w w' -> aX .i64 10 ⟨V.m, V.n, V.d, a, c, b, e⟩ w' -> QC 101 #[bI.val 10 ⟨V.m, V.n, V.d, a, c, b, e⟩, .int .i64 12] w' (.string (ah X)))
 (RD : ∀ a c b e w', BW w w' -> aX .i64 10 ⟨V.m, V.n, V.d, a, c, b, e⟩ w' -> Calls Tryz.prog 102 #[bI.val 10 ⟨V.m, V.n, V.d, a, c, b, e⟩, .int .i64 12] w' (fF .i64 10 U w'))
 (FC : ∀ a c b e w', BW w w' -> aX .i64 10 ⟨U.m, U.n, U.d, a, c, b, e⟩ w' -> QC 103 #[bI.val 10 ⟨U.m, U.n, U.d, a, c, b, e⟩] w' (.tuple #[iI (F1, F2), .int .i64 E]))
include hw0 lA lX Xg hpl hE0 hE1 RO PL FK ZG RD FC
theorem Pm : QC 46 #[.agg #[.int .i64 1, .string (ah f1), .string (ah f2), .string (ah tx), .bool on, .int .i64 cd, .int .i64 rw', .int .i64 cl, .slice sl sn sc]] w (.string (ah R)) := by
 refine yE func46 rfl results46 ntmps46 [] [] [.agg [.int .i64 1, .str f1, .str f2, .str tx, .bool on, .int .i64 cd, .int .i64 rw', .int .i64 cl, .any (.slice sl sn sc)]] w ?_
 rcases hpl with ⟨rfl, h1, h2⟩ | ⟨rfl, rfl⟩
 ·have h3 := Int.natCast_nonneg K
  repeat' (first | exact ⟨⟩ | refine yG ?_ ?_ | (refine dF .i64 10 V hw0 (by kernel_rfl) rfl (fun β w' hm => RO w' hm.below) (fun a1 c1 a2 c2 hcap => ?_)) | refine yK (.int .i64 ((K : Int))) (fun β w hm => PL a1 c1 a2 c2 w hm.below (aX.of (df hm) (df hm) hcap)) ?_ | refine yK (.str A) (fun β w hm => FK a1 c1 a2 c2 w hm.below (aX.of (df hm) (df hm) hcap)) ?_ | refine yK (.str X) (fun β w hm => ZG a1 c1 a2 c2 w hm.below (aX.of (df hm) (df hm) hcap)) ?_ | (refine dF .i64 10 U hw0 (by kernel_rfl) rfl (fun β w' hm => RD a1 c1 a2 c2 w' hm.below (aX.of (df hm) (df hm) hcap)) (fun a3 c3 a4 c4 hcap2 => ?_)) | refine yK (.bg [.agg [.str F1, .str F2], .int .i64 E]) (fun β w hm => FC a3 c3 a4 c4 w hm.below (aX.of (df hm) (df hm) hcap2)) ?_ | intro _)
  all_goals first | (exfalso; omega) | (rw [h1 (by omega)]; rfl) | (rw [h2 (by omega), hE1 (by assumption)]; rfl) | skip
  refine yZ (T := {s : List UInt8 // TzI X s}) (fun t => ⟨[(8, .str t.1)], [], 0, 80⟩) (fun t => t.1.length) ⟨X, ⟨rfl, Xg, lX⟩⟩ [] [] (fun t I hI => ?_)
  obtain ⟨s, h7, h8, h9⟩ := t
  dsimp only at h7 h8 h9 ⊢
  have h10 := List.length_pos_of_mem h8
  obtain ⟨z1, z2, z3⟩ := NZ h8
  repeat' (first | exact ⟨⟩ | refine yG ?_ ?_ | refine ⟨s.length - 1, by omega, by omega, ?_⟩ | intro _)
  all_goals first | (exfalso; omega) | skip
  ·exact hI _ ⟨_, ⟨(z1 (by assumption)).1.symm.trans h7, (z1 (by assumption)).2, by rw [List.length_take]; omega⟩⟩ (by dsimp only; rw [List.length_take]; omega) yW
  ·rw [h2 (by omega), hE0 (by omega)]; unfold af.oP; rw [<- h7, z2 (by assumption), (z3 (by assumption)).1 (by assumption)]; rfl
  ·rw [h2 (by omega), hE0 (by omega)]; unfold af.oP; rw [<- h7, z2 (by assumption), (z3 (by assumption)).2 (by assumption)]; rfl
 ·skip
  repeat' (first | exact ⟨⟩ | refine yG ?_ ?_ | (refine dF .i64 10 V hw0 (by kernel_rfl) rfl (fun β w' hm => RO w' hm.below) (fun a1 c1 a2 c2 hcap => ?_)) | refine yK (.int .i64 (-1)) (fun β w hm => PL a1 c1 a2 c2 w hm.below (aX.of (df hm) (df hm) hcap)) ?_ | refine yK (.str A) (fun β w hm => FK a1 c1 a2 c2 w hm.below (aX.of (df hm) (df hm) hcap)) ?_ | refine yK (.str X) (fun β w hm => ZG a1 c1 a2 c2 w hm.below (aX.of (df hm) (df hm) hcap)) ?_ | (refine dF .i64 10 U hw0 (by kernel_rfl) rfl (fun β w' hm => RD a1 c1 a2 c2 w' hm.below (aX.of (df hm) (df hm) hcap)) (fun a3 c3 a4 c4 hcap2 => ?_)) | refine yK (.bg [.agg [.str F1, .str F2], .int .i64 E]) (fun β w hm => FC a3 c3 a4 c4 w hm.below (aX.of (df hm) (df hm) hcap2)) ?_ | intro _)
  all_goals first | (exfalso; omega) | (rw [hE1 (by assumption)]; rfl) | skip
  refine yZ (T := {s : List UInt8 // TzI X s}) (fun t => ⟨[(8, .str t.1)], [], 0, 80⟩) (fun t => t.1.length) ⟨X, ⟨rfl, Xg, lX⟩⟩ [] [] (fun t I hI => ?_)
  obtain ⟨s, h7, h8, h9⟩ := t
  dsimp only at h7 h8 h9 ⊢
  have h10 := List.length_pos_of_mem h8
  obtain ⟨z1, z2, z3⟩ := NZ h8
  repeat' (first | exact ⟨⟩ | refine yG ?_ ?_ | refine ⟨s.length - 1, by omega, by omega, ?_⟩ | intro _)
  all_goals first | (exfalso; omega) | skip
  ·exact hI _ ⟨_, ⟨(z1 (by assumption)).1.symm.trans h7, (z1 (by assumption)).2, by rw [List.length_take]; omega⟩⟩ (by dsimp only; rw [List.length_take]; omega) yW
  ·rw [hE0 (by omega)]; unfold af.oP; rw [<- h7, z2 (by assumption), (z3 (by assumption)).1 (by assumption)]; rfl
  ·rw [hE0 (by omega)]; unfold af.oP; rw [<- h7, z2 (by assumption), (z3 (by assumption)).2 (by assumption)]; rfl
end
theorem S9 (V : ae.Num) (a c b e) (w : World) (hw0 : 0 < w.heap.size) (hx : aX .i64 10 ⟨V.m, V.n, V.d, a, c, b, e⟩ w) (hd : 0 < V.d) (ng : ae.nd 10 V.n <= 10000) (hxd : ae.nd 10 V.d <= 10000) :
  QC 101 #[bI.val 10 ⟨V.m, V.n, V.d, a, c, b, e⟩, .int .i64 12] w (.string (ah (ae.jo (ae.dA (ae.aG V 12)) 12))) :=
 Cj ⟨V.m, V.n, V.d, a, c, b, e⟩ 12 w hw0 hx hd ng hxd (by omega)
theorem XC (V : ae.Num) (a c b e) (w : World) (hw0 : 0 < w.heap.size) (hx : aX .i64 10 ⟨V.m, V.n, V.d, a, c, b, e⟩ w) (hd : 0 < V.d) (ng : ae.nd 10 V.n <= 1000000) (hxd : ae.nd 10 V.d <= 1000000) :
  QC 103 #[bI.val 10 ⟨V.m, V.n, V.d, a, c, b, e⟩] w (.tuple #[iI ((ae.ak V).1, (ae.ak V).2), .int .i64 (ae.ay V)]) :=
 kH ⟨V.m, V.n, V.d, a, c, b, e⟩ w hw0 hx hd ng hxd
theorem SS (tx : List UInt8) (on : Bool) (cd rw' cl : Int) (sl : Option Addr) (sn sc : Nat) (f : ae.Fr) (w : World) (hw0 : 0 < w.heap.size) (hE : ae.bQ f = 0) :
  QC 46 #[.agg #[.int .i64 1, .string (ah f.1), .string (ah f.2), .string (ah tx), .bool on, .int .i64 cd, .int .i64 rw', .int .i64 cl, .slice sl sn sc]] w (.string (ah (af.fD (ae.az f)))) := by
 obtain ⟨q1, q2, q3⟩ := ae.fZ hE (b := 10) (by omega)
 have hP := af.SH _ q3
 have hk := af.Jh hE hP
 have l1 := af.tK hE (af.Ei (ae.az f).d).2 (by omega)
 have l2 := af.tK hE 12 (by omega)
 have c12 : ((12 : Nat) : Int) = 12 := rfl
 rw [c12] at l2
 obtain ⟨r, a, b, hr, hd, hone, hkk⟩ := hP
 have RO := fun (w' : World) (h : BW w w') => yg f w' (zl hw0 h.size) hE
 have g4 := (ae.Ak hE).2.2.2.2.2.1
 have g5 := af.Cb hE
 have hD : af.fD (ae.az f) = if (af.Ei (ae.az f).d).1 = true /\ (ae.jo (ae.dA (ae.aG (ae.az f) (af.Ei (ae.az f).d).2)) (af.Ei (ae.az f).d).2).length <= 40 then ae.jo (ae.dA (ae.aG (ae.az f) (af.Ei (ae.az f).d).2)) (af.Ei (ae.az f).d).2 else if ae.ay (ae.jq (ae.az f) 12) = 0 then af.oP (ae.jo (ae.dA (ae.aG (ae.az f) 12)) 12) else [35, 78, 85, 77, 33] := rfl
 rw [hone, hkk] at hD
 rw [hkk] at l1 hk
 obtain ⟨f1, f2⟩ := f
 generalize af.fD (ae.az (f1, f2)) = R at *
 generalize ae.az (f1, f2) = V at *
 clear hE hone hkk
 obtain ⟨g1, g2, g3⟩ := af.Tj q1 q2 q3
 have RD := fun (a' c b' e) (w' : World) (h : BW w w') hx => LK ⟨V.m, V.n, V.d, a', c, b', e⟩ 12 w' (zl hw0 h.size) hx q3 (Nat.le_trans q1 (by omega)) (Nat.le_trans q2 (by omega)) (by decide)
 simp only [bI.Vs] at RD
 have FC := fun (a' c b' e) (w' : World) (h : BW w w') hx => XC (ae.jq V 12) a' c b' e w' (zl hw0 h.size) hx g3 (Nat.le_trans g1 (by omega)) (Nat.le_trans g2 (by omega))
 refine Pm tx on cd rw' cl sl sn sc f1 f2 w hw0 V (ae.jq V 12) (max a b) (if r = 1 then ((max a b : Nat) : Int) else -1) _ _ _ _ _ R (if ae.ay (ae.jq V 12) = 0 then af.oP (ae.jo (ae.dA (ae.aG V 12)) 12) else [35, 78, 85, 77, 33]) l1 l2 (af.UU _ 12 (by omega)) ?_ (fun h => if_pos h) (fun h => if_neg h) RO
  (fun a' c b' e w' h hx => Jr ⟨V.m, V.n, V.d, a', c, b', e⟩ w' (zl hw0 h.size) hx q3 q1 q2 g4 g5 r a b hr hd)
  (fun a' c b' e w' h hx => Cj ⟨V.m, V.n, V.d, a', c, b', e⟩ (max a b) w' (zl hw0 h.size) hx q3 (Nat.le_trans q1 (by omega)) (Nat.le_trans q2 (by omega)) (by omega))
  (fun a' c b' e w' h hx => S9 V a' c b' e w' (zl hw0 h.size) hx q3 (Nat.le_trans q1 (by omega)) (Nat.le_trans q2 (by omega)))
  RD FC
 rw [hD]
 by_cases h1 : r = 1
 ·rw [if_pos h1, decide_eq_true h1]
  exact .inl ⟨rfl, fun h => if_pos ⟨rfl, h⟩, fun h => if_neg (fun e => h e.2)⟩
 ·rw [if_neg h1, decide_eq_false h1]
  exact .inr ⟨rfl, if_neg (fun e => by cases e.1)⟩
theorem uo {t : af.VT} (h : af.dY t = 0) (hk : t.kind = 1) : ae.bQ t.num = 0 := by
 by_cases h1 : t.kind < 0 \/ 5 < t.kind
 ·rw [oH h1] at h; cases h
 ·by_cases h2 : af.qP t
  ·rw [kM h1 h2] at h; cases h
  ·rw [pY h1 h2, if_pos hk] at h; exact h
theorem JE (t : af.VT) : af.showS t = if t.kind = 1 then af.fD (ae.az t.num) else if t.kind = 2 then t.text else if t.kind = 3 then af.boolT t.on else if t.kind = 4 then af.iF t.code else [] := rfl
theorem CW (t : af.VT) (a : Option Addr) (cap : Nat) (w : World) (hw : XV w) (hw0 : 0 < w.heap.size) (hf : t.Fit) (h5 : t.kind ≠ 5) (hE : af.dY t = 0) :
  QC 98 #[jk t a cap] w (.string (ah (af.showS t))) := by
 have D := fun (h : t.kind = 1) (w' : World) (hb : BW w w') => Gz t.num w' (hw.below hb) (zl hw0 hb.size) hf.n1 hf.n2 (uo hE h)
 have F := fun (w' : World) (hb : BW w w') => xQ t.code w' (hw.below hb)
 have hS := JE t
 have hB1 : t.on = true -> af.boolT t.on = [84, 82, 85, 69] := fun h => by rw [h]; rfl
 have hB0 : t.on = false -> af.boolT t.on = [70, 65, 76, 83, 69] := fun h => by rw [h]; rfl
 generalize af.showS t = R at *
 generalize af.fD (ae.az t.num) = DT at *
 generalize af.iF t.code = FT at *
 generalize af.boolT t.on = BT at *
 clear hE hf
 obtain ⟨k, ⟨n1, n2⟩, tx, on, cd, rw', cl, its⟩ := t
 unfold jk at *
 dsimp only at *
 generalize its.length = n at *
 refine yE func98 rfl results98 ntmps98 [] [] [.agg [.int .i64 k, .str n1, .str n2, .str tx, .bool on, .int .i64 cd, .int .i64 rw', .int .i64 cl, .any (.slice a n cap)]] w ?_
 repeat' (first | exact ⟨⟩ | refine yG ?_ ?_ | refine yK (.str DT) (fun β w hm => D (by assumption) w hm.below) ?_ | refine yB (.str FT) (fun _ => F) ?_ | intro _)
 all_goals first | (exfalso; omega) | skip
 all_goals rw [hS]
 all_goals first | (rw [if_pos (by assumption : k = 1)]; rfl) | (rw [if_neg (by assumption : ¬ k = 1), if_pos (by assumption : k = 2)]; rfl) | (rw [if_neg (by assumption : ¬ k = 1), if_neg (by assumption : ¬ k = 2), if_pos (by assumption : k = 3)]; first | (rw [hB1 (by assumption)]; rfl) | (rw [hB0 (by assumption)]; rfl)) | (rw [if_neg (by assumption : ¬ k = 1), if_neg (by assumption : ¬ k = 2), if_neg (by assumption : ¬ k = 3), if_pos (by assumption : k = 4)]; rfl) | (rw [if_neg (by assumption : ¬ k = 1), if_neg (by assumption : ¬ k = 2), if_neg (by assumption : ¬ k = 3), if_neg (by assumption : ¬ k = 4)]; rfl)
theorem af.sQ {t : af.VT} (h : af.iW t = 0) (h5 : t.kind = 5) : ∃ x r, t.items = x :: r /\ x.kind ≠ 5 /\ af.dY x = 0 := by
 have e : af.iW t = if af.dY t ≠ 0 \/ t.kind ≠ 5 then af.dY t else if t.rows < 1 \/ 100000 < t.rows \/ t.cols < 1 \/ 100000 < t.cols then 2 else if 100000 < t.rows * t.cols then 3 else if (t.items.length : Int) ≠ t.rows * t.cols then 4 else af.lZ t.items := rfl
 rw [e] at h
 by_cases h1 : af.dY t ≠ 0 \/ t.kind ≠ 5
 ·rw [if_pos h1] at h; rcases h1 with h1 | h1
  ·exact absurd h h1
  ·exact absurd h5 h1
 rw [if_neg h1] at h
 by_cases h2 : t.rows < 1 \/ 100000 < t.rows \/ t.cols < 1 \/ 100000 < t.cols
 ·rw [if_pos h2] at h; cases h
 rw [if_neg h2] at h
 by_cases h3 : 100000 < t.rows * t.cols
 ·rw [if_pos h3] at h; cases h
 rw [if_neg h3] at h
 by_cases h4 : (t.items.length : Int) ≠ t.rows * t.cols
 ·rw [if_pos h4] at h; cases h
 rw [if_neg h4] at h
 have h5 : 1 * 1 <= t.rows * t.cols := Int.mul_le_mul (by omega) (by omega) (by omega) (by omega)
 cases hi : t.items with
 | nil => rw [hi] at h4; simp only [List.length_nil] at h4; omega
 | cons x r =>
   have := af.IL.1 h x (by rw [hi]; simp)
   unfold af.OH at this
   by_cases h6 : x.kind = 5
   ·rw [if_pos h6] at this; cases this
   ·rw [if_neg h6] at this; exact ⟨x, r, rfl, h6, this⟩
theorem af.Gw {t : af.VT} (h : af.iW t = 0) (h5 : t.kind ≠ 5) : af.dY t = 0 := by
 unfold af.iW at h
 rw [if_pos (.inr h5)] at h
 exact h
theorem oL.first {w : World} {t x : af.VT} {a : Option Addr} {cap : Nat} {r : List af.VT} (h : oL w t a cap) (hx : t.items = x :: r) : ∃ (p : Option Addr × Nat) (ad : Addr), a = some ad /\ oL w x p.1 p.2 /\
  ∀ w', BW w w' -> ∀ (β : Nat -> Nat) (j : Nat) (v : Value), (SV.aF β [.int .i64 x.kind, .str x.num.1, .str x.num.2, .str x.text, .bool x.on, .int .i64 x.code, .int .i64 x.rows, .int .i64 x.cols, .any (.slice p.1 x.items.length p.2)])[j]? = some v -> w'.cell? ((ad.add (0 * 9)).add j) = some v := by
 cases h with
 | mk t a cap ps hf hc hn hi hs =>
 have h0 : t.items[0]? = some x := by rw [hx]; rfl
 obtain ⟨ad, rfl, hblk, hcell⟩ := hs 0 x h0
 exact ⟨ps 0, ad, rfl, hi 0 x h0, fun w' hb β j v hv => by
  rw [Go.Deep.add_add]
  exact cell_below (hcell j v hv) hb⟩
theorem PS (t x : af.VT) (r : List af.VT) (a : Option Addr) (cap : Nat) (w : World) (hw : XV w) (hw0 : 0 < w.heap.size) (ht : oL w t a cap) (h5 : t.kind = 5) (hx : t.items = x :: r) (hx5 : x.kind ≠ 5) (hE : af.dY x = 0) :
  QC 98 #[jk t a cap] w (.string (ah (af.showS x))) := by
 obtain ⟨⟨p1, p2⟩, ad, rfl, hxi, hld⟩ := ht.first hx
 have C := fun (w' : World) (hb : BW w w') => CW x p1 p2 w' (hw.below hb) (zl hw0 hb.size) hxi.fit hx5 hE
 clear ht hE hxi
 have hn1 : 0 < t.items.length := by rw [hx]; simp
 clear hx
 obtain ⟨k, ⟨n1, n2⟩, tx, on, cd, rw', cl, its⟩ := t
 unfold jk at *
 dsimp only at *
 generalize its.length = n at *
 subst h5
 generalize af.showS x = R at *
 obtain ⟨xk, ⟨m1, m2⟩, xt, xo, xc, xr, xl, xi⟩ := x
 dsimp only at *
 generalize xi.length = xn at *
 refine yE func98 rfl results98 ntmps98 [] [] [.agg [.int .i64 5, .str n1, .str n2, .str tx, .bool on, .int .i64 cd, .int .i64 rw', .int .i64 cl, .any (.slice (some ad) n cap)]] w ?_
 repeat' (first | exact ⟨⟩ | refine yG ?_ ?_ | refine yN (j := 0) underlying26 sizeOf28 ?_ | (refine ⟨_, ?ok, jL (vs := [.int .i64 xk, .str m1, .str m2, .str xt, .bool xo, .int .i64 xc, .int .i64 xr, .int .i64 xl, .any (.slice p1 xn p2)]) (fun w => isAgg28 w) (fun w => sizeOf28 w) hld, ?_⟩; (case ok => exact fun _ _ => ⟨trivial, trivial, trivial, trivial, trivial, trivial, trivial, trivial, rfl, trivial⟩)) | refine yB (.str R) (fun _ => C) ?_ | intro _)
 all_goals first | (exfalso; omega) | rfl
theorem MH (t : af.VT) (a : Option Addr) (cap : Nat) (w : World) (hw : XV w) (hw0 : 0 < w.heap.size) (ht : oL w t a cap) (hE : af.iW t = 0) :
  QC 98 #[jk t a cap] w (.string (ah (af.showT t))) := by
 by_cases h5 : t.kind = 5
 ·obtain ⟨x, r, hx, h1, h2⟩ := af.sQ hE h5
  have e : af.showT t = af.showS x := by unfold af.showT; rw [if_pos h5, hx]
  rw [e]
  exact PS t x r a cap w hw hw0 ht h5 hx h1 h2
 ·have e : af.showT t = af.showS t := by unfold af.showT; rw [if_neg h5]
  rw [e]
  exact CW t a cap w hw hw0 ht.fit h5 (af.Gw hE h5)
theorem Qb (t : af.VT) (a : Option Addr) (cap : Nat) (w : World) (hw : XV w) (hw0 : 0 < w.heap.size) (ht : oL w t a cap) :
  QC 45 #[jk t a cap] w (.tuple #[.string (ah (if af.iW t = 0 then af.showT t else [])), .int .i64 (af.iW t)]) := by
 have C := fun (w' : World) (hb : BW w w') => vI t a cap w' (hw.below hb) (ht.lift hb)
 have S := fun (h : af.iW t = 0) (w' : World) (hb : BW w w') => MH t a cap w' (hw.below hb) (zl hw0 hb.size) (ht.lift hb) h
 generalize af.iW t = E at *
 generalize af.showT t = R at *
 clear ht
 obtain ⟨k, ⟨n1, n2⟩, tx, on, cd, rw', cl, its⟩ := t
 unfold jk at *
 dsimp only at *
 generalize its.length = n at *
 refine yE func45 rfl results45 ntmps45 [] [] [.agg [.int .i64 k, .str n1, .str n2, .str tx, .bool on, .int .i64 cd, .int .i64 rw', .int .i64 cl, .any (.slice a n cap)]] w ?_
 repeat' (first | exact ⟨⟩ | refine yG ?_ ?_ | refine yB (.int .i64 E) (fun _ => C) ?_ | refine yK (.str R) (fun β w hm => S (by omega) w hm.below) ?_ | intro _)
 all_goals first | (exfalso; omega) | (rw [if_neg (by assumption)]; rfl) | (have e0 : E = 0 := (by omega); subst e0; rw [if_pos rfl]; rfl)
namespace af
def iY (t : VT) : VT := if iW t ≠ 0 then eu 2 else if t.kind = 5 then (match t.items with | [] => t | x :: _ => x) else t
theorem CS {t : VT} (h : iW t ≠ 0) : iY t = eu 2 := if_pos h
theorem CQ {t x : VT} {r : List VT} (h : iW t = 0) (h5 : t.kind = 5) (hx : t.items = x :: r) : iY t = x := by unfold iY; rw [if_neg (fun e => e h), if_pos h5, hx]
theorem CU {t : VT} (h : iW t = 0) (h5 : t.kind ≠ 5) : iY t = t := by unfold iY; rw [if_neg (fun e => e h), if_neg h5]
end af
theorem af.Jz (t : af.VT) : (af.iY t).kind ≠ 5 /\ af.dY (af.iY t) = 0 := by
 by_cases h : af.iW t = 0
 ·by_cases h5 : t.kind = 5
  ·obtain ⟨x, r, hx, h1, h2⟩ := af.sQ h h5
   rw [af.CQ h h5 hx]; exact ⟨h1, h2⟩
  ·rw [af.CU h h5]; exact ⟨h5, af.Gw h h5⟩
 ·rw [af.CS h]
  exact ⟨by simp [af.eu], rfl⟩
structure Yf (w : World) (t : af.VT) (p : Option Addr × Nat) (P : World -> Prop) : Prop where
 vin : oL w (af.iY t) p.1 p.2
 run : ∀ w', BW w w' -> P w'
theorem sS (t : af.VT) (a : Option Addr) (cap : Nat) (w : World) (hw : XV w) (ht : oL w t a cap) :
  ∃ p, Yf w t p fun w' => QC 104 #[jk t a cap] w' (jk (af.iY t) p.1 p.2) := by
 by_cases h : af.iW t = 0
 ·have V := fun (w' : World) (hb : BW w w') => CZ t a cap w' (hw.below hb) (ht.lift hb) h
  by_cases h5 : t.kind = 5
  ·obtain ⟨x, r, hx, h1, h2⟩ := af.sQ h h5
   obtain ⟨⟨p1, p2⟩, ad, rfl, hxi, hld⟩ := ht.first hx
   refine ⟨(p1, p2), ⟨by rw [af.CQ h h5 hx]; exact hxi, fun w' hb => ?_⟩⟩
   rw [show af.iY t = x from af.CQ h h5 hx]
   replace hld := fun w2 (h2 : BW w' w2) => hld w2 (hb.trans (h2.mono hb.size))
   have hn1 : 0 < t.items.length := by rw [hx]; simp
   replace V := fun w2 (h2 : BW w' w2) => V w2 (hb.trans (h2.mono hb.size))
   clear ht h h2 hxi hx h1 hw hb
   obtain ⟨k, ⟨n1, n2⟩, tx, on, cd, rw', cl, its⟩ := t
   unfold jk at *
   dsimp only at *
   generalize its.length = n at *
   subst h5
   obtain ⟨xk, ⟨m1, m2⟩, xt, xo, xc, xr, xl, xi⟩ := x
   dsimp only at *
   generalize xi.length = xn at *
   refine yE func104 rfl results104 ntmps104 [] [] [.agg [.int .i64 5, .str n1, .str n2, .str tx, .bool on, .int .i64 cd, .int .i64 rw', .int .i64 cl, .any (.slice (some ad) n cap)]] w' ?_
   repeat' (first | exact ⟨⟩ | refine yG ?_ ?_ | refine yN (j := 0) underlying26 sizeOf28 ?_ | (refine ⟨_, ?ok, jL (vs := [.int .i64 xk, .str m1, .str m2, .str xt, .bool xo, .int .i64 xc, .int .i64 xr, .int .i64 xl, .any (.slice p1 xn p2)]) (fun w => isAgg28 w) (fun w => sizeOf28 w) hld, ?_⟩; (case ok => exact fun _ _ => ⟨trivial, trivial, trivial, trivial, trivial, trivial, trivial, trivial, rfl, trivial⟩)) | refine yB (.agg [.int .i64 5, .str n1, .str n2, .str tx, .bool on, .int .i64 cd, .int .i64 rw', .int .i64 cl, .any (.slice (some ad) n cap)]) (fun _ => V) ?_ | intro _)
   all_goals first | (exfalso; omega) | rfl
  ·refine ⟨(a, cap), ⟨by rw [af.CU h h5]; exact ht, fun w' hb => ?_⟩⟩
   rw [show af.iY t = t from af.CU h h5]
   replace V := fun w2 (h2 : BW w' w2) => V w2 (hb.trans (h2.mono hb.size))
   clear ht h hw hb
   obtain ⟨k, ⟨n1, n2⟩, tx, on, cd, rw', cl, its⟩ := t
   unfold jk at *
   dsimp only at *
   generalize its.length = n at *
   refine yE func104 rfl results104 ntmps104 [] [] [.agg [.int .i64 k, .str n1, .str n2, .str tx, .bool on, .int .i64 cd, .int .i64 rw', .int .i64 cl, .any (.slice a n cap)]] w' ?_
   repeat' (first | exact ⟨⟩ | refine yG ?_ ?_ | refine yB (.agg [.int .i64 k, .str n1, .str n2, .str tx, .bool on, .int .i64 cd, .int .i64 rw', .int .i64 cl, .any (.slice a n cap)]) (fun _ => V) ?_ | intro _)
   all_goals first | (exfalso; omega) | rfl
 ·have V := fun (w' : World) (hb : BW w w') => EL t a cap w' (hw.below hb) (ht.lift hb) h
  refine ⟨(none, 0), ⟨by rw [af.CS h]; exact .flat rfl ⟨Nat.zero_le _, Nat.zero_le _, Nat.zero_le _, Nat.zero_le _⟩, fun w' hb => ?_⟩⟩
  rw [show af.iY t = af.eu 2 from af.CS h]
  replace V := fun w2 (h2 : BW w' w2) => V w2 (hb.trans (h2.mono hb.size))
  clear ht h hw hb
  obtain ⟨k, ⟨n1, n2⟩, tx, on, cd, rw', cl, its⟩ := t
  unfold jk at *
  dsimp only at *
  generalize its.length = n at *
  refine yE func104 rfl results104 ntmps104 [] [] [.agg [.int .i64 k, .str n1, .str n2, .str tx, .bool on, .int .i64 cd, .int .i64 rw', .int .i64 cl, .any (.slice a n cap)]] w' ?_
  repeat' (first | exact ⟨⟩ | refine yG ?_ ?_ | refine yB (.agg [.int .i64 4, .str [], .str [], .str [], .lit false, .int .i64 2, .int .i64 0, .int .i64 0, .any (.slice none 0 0)]) (fun _ => V) ?_ | intro _)
  all_goals first | (exfalso; omega) | rfl
def af.Dq (s : List UInt8) (c : Nat) : Nat -> Nat
 | 0 => c
 | k + 1 => af.Dq s c k * 64 + af.bt s (k + 1) % 64
theorem af.KI (s : List UInt8) (c : Nat) (hc : c <= 31) : af.Dq s c 0 <= 31 /\ af.Dq s c 1 <= 2047 /\ af.Dq s c 2 <= 131071 /\ af.Dq s c 3 <= 8388607 := by
 refine ⟨hc, ?_, ?_, ?_⟩
 ·show c * 64 + af.bt s 1 % 64 <= _; omega
 ·show (c * 64 + af.bt s 1 % 64) * 64 + af.bt s 2 % 64 <= _; omega
 ·show ((c * 64 + af.bt s 1 % 64) * 64 + af.bt s 2 % 64) * 64 + af.bt s 3 % 64 <= _; omega
theorem VW (s : List UInt8) (R1 R2 : Nat) (w : World) (hs : s ≠ []) (hl : s.length <= 9223372036854775807) (h1 : 194 <= af.bt s 0) (h2 : af.bt s 0 < 224) (C : Nat) (hC : C = af.Dq s (af.bt s 0 % 32) 1)
  (hG : 2 <= s.length -> (∀ j, 1 <= j -> j < 2 -> af.bt s j / 64 = 2) -> 128 <= C -> (C < 55296 \/ 57344 <= C) -> C <= 1114111 -> R1 = C /\ R2 = 2)
  (hB : ¬ (2 <= s.length /\ (∀ j, 1 <= j -> j < 2 -> af.bt s j / 64 = 2) /\ 128 <= C /\ (C < 55296 \/ 57344 <= C) /\ C <= 1114111) -> R1 = 0 /\ R2 = 0) :
  QC 120 #[.string (ah s)] w (.tuple #[.int .i64 (R1 : Nat), .int .i64 (R2 : Nat)]) := by
 have hl0 := List.length_pos_iff.2 hs
 have hbt := af.uB s
 have hcv := af.KI s (af.bt s 0 % 32) (by omega)
 have hst : ∀ k, af.Dq s (af.bt s 0 % 32) (k + 1) = af.Dq s (af.bt s 0 % 32) k * 64 + af.bt s (k + 1) % 64 := fun _ => rfl
 have hz : af.Dq s (af.bt s 0 % 32) 0 = af.bt s 0 % 32 := rfl
 have hget : ∀ j, (s.getD j 0).toNat = af.bt s j := fun _ => rfl
 generalize af.Dq s (af.bt s 0 % 32) = CV at *
 generalize af.bt s = B at *
 have hg0 := hget 0
 have hb0 := hbt 0
 refine yE func120 rfl results120 ntmps120 [] [] [.str s] w ?_
 repeat' (first | exact ⟨⟩ | refine yG ?_ ?_ | ((with_reducible show ∃ _ : SV, _); first | (refine ⟨.int .i64 ((B 0 % 32 : Nat) : Int), ?ok, xq _ (by rw [hget 0]; exact Bi.FP (B 0) 31 _ (by have := hbt 0; omega) (by omega) (Bi.WQ _)), ?_⟩; (case ok => exact fun _ _ => trivial))) | ((with_reducible show ∃ _, _); first | (refine ⟨0, rfl, hl0, ?_⟩)) | intro _)
 all_goals first | (exfalso; have := hget 0; omega) | (obtain ⟨rfl, rfl⟩ := hB (fun h => by have := h.1; omega); rfl) | skip
 refine yZ (T := {k : Nat // k + 1 <= 2 /\ ∀ j, 1 <= j -> j < k + 1 -> B j / 64 = 2}) (fun t => ⟨[(0, .str s), (4, .int .i64 (CV t.1 : Nat)), (5, .int .i64 2), (6, .int .i64 128), (7, .int .i64 ((t.1 : Nat) + 1))], [], 0, 81⟩) (fun t => 2 - t.1) ⟨0, by omega, fun j h1 h2 => by omega⟩ [] [] (fun t I hI => ?_)
 obtain ⟨k, hk, hj⟩ := t
 dsimp only
 have hk3 : k <= 3 := by omega
 have YO : CV k <= 8388607 := by
  have : k = 0 \/ k = 1 \/ k = 2 \/ k = 3 := by omega
  rcases this with rfl | rfl | rfl | rfl <;> omega
 have hb1 := hbt (k + 1)
 have hs1 := hst k
 have hg1 := hget (k + 1)
 by_cases hlt : k + 1 < 2
 ·repeat' (first | exact ⟨⟩ | refine yG ?_ ?_ | ((with_reducible show ∃ _ : SV, _); first | (refine ⟨.int .u8 ((B (k + 1) / 64 * 64 : Nat) : Int), ?ok, xq _ (by rw [hg1]; exact Bi.u8_and (B (k + 1)) 192 _ (by omega) (by omega) (Bi.E5 _ (by omega))), ?_⟩; (case ok => exact fun _ _ => trivial)) | (refine ⟨.int .u8 ((B (k + 1) % 64 : Nat) : Int), ?ok, xq _ (by rw [hg1]; exact Bi.u8_and (B (k + 1)) 63 _ (by omega) (by omega) (Bi.Kt _)), ?_⟩; (case ok => exact fun _ _ => trivial)) | (refine ⟨.int .i64 ((CV k * 64 : Nat) : Int), ?ok, ML 6 _ rfl (by rw [Int.natCast_mul]; rfl) (by decide) (by simp only [uu]; omega), ?_⟩; (case ok => exact fun _ _ => trivial)) | (refine ⟨.int .i64 ((CV k * 64 + B (k + 1) % 64 : Nat) : Int), ?ok, XU _ (Bi.KX (CV k * 64) (B (k + 1) % 64) _ (by omega) (by omega) (Bi.Sm _ _ (by omega))), ?_⟩; (case ok => exact fun _ _ => trivial))) | ((with_reducible show ∃ _, _); first | (refine ⟨k + 1, rfl, by omega, ?_⟩)) | intro _)
  all_goals first | (exfalso; omega) | (obtain ⟨rfl, rfl⟩ := hB (fun h => by have := h.2.1 (k + 1) (by omega) hlt; omega); rfl) | (rw [<- hs1]; refine hI _ ⟨k + 1, by omega, fun j h1 h2 => (Nat.lt_or_ge j (k + 1)).elim (fun h => hj j h1 h) (fun h => by { have e : j = k + 1 := by { omega }; rw [e]; omega })⟩ (by dsimp only; omega) yW; done)
 ·have e : k = 1 := by omega
  subst e
  rw [<- hC] at *
  repeat' (first | exact ⟨⟩ | refine yG ?_ ?_ | intro _)
  all_goals first | (exfalso; omega) | (obtain ⟨rfl, rfl⟩ := hB (fun h => by have := h.2.2; omega); rfl) | (obtain ⟨rfl, rfl⟩ := hG (by omega) hj (by omega) (by omega) (by omega); rfl)
theorem VX (s : List UInt8) (R1 R2 : Nat) (w : World) (hs : s ≠ []) (hl : s.length <= 9223372036854775807) (h1 : 224 <= af.bt s 0) (h2 : af.bt s 0 < 240) (C : Nat) (hC : C = af.Dq s (af.bt s 0 % 16) 2)
  (hG : 3 <= s.length -> (∀ j, 1 <= j -> j < 3 -> af.bt s j / 64 = 2) -> 2048 <= C -> (C < 55296 \/ 57344 <= C) -> C <= 1114111 -> R1 = C /\ R2 = 3)
  (hB : ¬ (3 <= s.length /\ (∀ j, 1 <= j -> j < 3 -> af.bt s j / 64 = 2) /\ 2048 <= C /\ (C < 55296 \/ 57344 <= C) /\ C <= 1114111) -> R1 = 0 /\ R2 = 0) :
  QC 120 #[.string (ah s)] w (.tuple #[.int .i64 (R1 : Nat), .int .i64 (R2 : Nat)]) := by
 have hl0 := List.length_pos_iff.2 hs
 have hbt := af.uB s
 have hcv := af.KI s (af.bt s 0 % 16) (by omega)
 have hst : ∀ k, af.Dq s (af.bt s 0 % 16) (k + 1) = af.Dq s (af.bt s 0 % 16) k * 64 + af.bt s (k + 1) % 64 := fun _ => rfl
 have hz : af.Dq s (af.bt s 0 % 16) 0 = af.bt s 0 % 16 := rfl
 have hget : ∀ j, (s.getD j 0).toNat = af.bt s j := fun _ => rfl
 generalize af.Dq s (af.bt s 0 % 16) = CV at *
 generalize af.bt s = B at *
 have hg0 := hget 0
 have hb0 := hbt 0
 refine yE func120 rfl results120 ntmps120 [] [] [.str s] w ?_
 repeat' (first | exact ⟨⟩ | refine yG ?_ ?_ | ((with_reducible show ∃ _ : SV, _); first | (refine ⟨.int .i64 ((B 0 % 16 : Nat) : Int), ?ok, xq _ (by rw [hget 0]; exact Bi.FP (B 0) 15 _ (by have := hbt 0; omega) (by omega) (Bi.WO _)), ?_⟩; (case ok => exact fun _ _ => trivial))) | ((with_reducible show ∃ _, _); first | (refine ⟨0, rfl, hl0, ?_⟩)) | intro _)
 all_goals first | (exfalso; have := hget 0; omega) | (obtain ⟨rfl, rfl⟩ := hB (fun h => by have := h.1; omega); rfl) | skip
 refine yZ (T := {k : Nat // k + 1 <= 3 /\ ∀ j, 1 <= j -> j < k + 1 -> B j / 64 = 2}) (fun t => ⟨[(0, .str s), (4, .int .i64 (CV t.1 : Nat)), (5, .int .i64 3), (6, .int .i64 2048), (7, .int .i64 ((t.1 : Nat) + 1))], [], 0, 81⟩) (fun t => 3 - t.1) ⟨0, by omega, fun j h1 h2 => by omega⟩ [] [] (fun t I hI => ?_)
 obtain ⟨k, hk, hj⟩ := t
 dsimp only
 have hk3 : k <= 3 := by omega
 have YO : CV k <= 8388607 := by
  have : k = 0 \/ k = 1 \/ k = 2 \/ k = 3 := by omega
  rcases this with rfl | rfl | rfl | rfl <;> omega
 have hb1 := hbt (k + 1)
 have hs1 := hst k
 have hg1 := hget (k + 1)
 by_cases hlt : k + 1 < 3
 ·repeat' (first | exact ⟨⟩ | refine yG ?_ ?_ | ((with_reducible show ∃ _ : SV, _); first | (refine ⟨.int .u8 ((B (k + 1) / 64 * 64 : Nat) : Int), ?ok, xq _ (by rw [hg1]; exact Bi.u8_and (B (k + 1)) 192 _ (by omega) (by omega) (Bi.E5 _ (by omega))), ?_⟩; (case ok => exact fun _ _ => trivial)) | (refine ⟨.int .u8 ((B (k + 1) % 64 : Nat) : Int), ?ok, xq _ (by rw [hg1]; exact Bi.u8_and (B (k + 1)) 63 _ (by omega) (by omega) (Bi.Kt _)), ?_⟩; (case ok => exact fun _ _ => trivial)) | (refine ⟨.int .i64 ((CV k * 64 : Nat) : Int), ?ok, ML 6 _ rfl (by rw [Int.natCast_mul]; rfl) (by decide) (by simp only [uu]; omega), ?_⟩; (case ok => exact fun _ _ => trivial)) | (refine ⟨.int .i64 ((CV k * 64 + B (k + 1) % 64 : Nat) : Int), ?ok, XU _ (Bi.KX (CV k * 64) (B (k + 1) % 64) _ (by omega) (by omega) (Bi.Sm _ _ (by omega))), ?_⟩; (case ok => exact fun _ _ => trivial))) | ((with_reducible show ∃ _, _); first | (refine ⟨k + 1, rfl, by omega, ?_⟩)) | intro _)
  all_goals first | (exfalso; omega) | (obtain ⟨rfl, rfl⟩ := hB (fun h => by have := h.2.1 (k + 1) (by omega) hlt; omega); rfl) | (rw [<- hs1]; refine hI _ ⟨k + 1, by omega, fun j h1 h2 => (Nat.lt_or_ge j (k + 1)).elim (fun h => hj j h1 h) (fun h => by { have e : j = k + 1 := by { omega }; rw [e]; omega })⟩ (by dsimp only; omega) yW; done)
 ·have e : k = 2 := by omega
  subst e
  rw [<- hC] at *
  repeat' (first | exact ⟨⟩ | refine yG ?_ ?_ | intro _)
  all_goals first | (exfalso; omega) | (obtain ⟨rfl, rfl⟩ := hB (fun h => by have := h.2.2; omega); rfl) | (obtain ⟨rfl, rfl⟩ := hG (by omega) hj (by omega) (by omega) (by omega); rfl)
theorem VY (s : List UInt8) (R1 R2 : Nat) (w : World) (hs : s ≠ []) (hl : s.length <= 9223372036854775807) (h1 : 240 <= af.bt s 0) (h2 : af.bt s 0 < 245) (C : Nat) (hC : C = af.Dq s (af.bt s 0 % 8) 3)
  (hG : 4 <= s.length -> (∀ j, 1 <= j -> j < 4 -> af.bt s j / 64 = 2) -> 65536 <= C -> (C < 55296 \/ 57344 <= C) -> C <= 1114111 -> R1 = C /\ R2 = 4)
  (hB : ¬ (4 <= s.length /\ (∀ j, 1 <= j -> j < 4 -> af.bt s j / 64 = 2) /\ 65536 <= C /\ (C < 55296 \/ 57344 <= C) /\ C <= 1114111) -> R1 = 0 /\ R2 = 0) :
  QC 120 #[.string (ah s)] w (.tuple #[.int .i64 (R1 : Nat), .int .i64 (R2 : Nat)]) := by
 have hl0 := List.length_pos_iff.2 hs
 have hbt := af.uB s
 have hcv := af.KI s (af.bt s 0 % 8) (by omega)
 have hst : ∀ k, af.Dq s (af.bt s 0 % 8) (k + 1) = af.Dq s (af.bt s 0 % 8) k * 64 + af.bt s (k + 1) % 64 := fun _ => rfl
 have hz : af.Dq s (af.bt s 0 % 8) 0 = af.bt s 0 % 8 := rfl
 have hget : ∀ j, (s.getD j 0).toNat = af.bt s j := fun _ => rfl
 generalize af.Dq s (af.bt s 0 % 8) = CV at *
 generalize af.bt s = B at *
 have hg0 := hget 0
 have hb0 := hbt 0
 refine yE func120 rfl results120 ntmps120 [] [] [.str s] w ?_
 repeat' (first | exact ⟨⟩ | refine yG ?_ ?_ | ((with_reducible show ∃ _ : SV, _); first | (refine ⟨.int .i64 ((B 0 % 8 : Nat) : Int), ?ok, xq _ (by rw [hget 0]; exact Bi.FP (B 0) 7 _ (by have := hbt 0; omega) (by omega) (Bi.Yn _)), ?_⟩; (case ok => exact fun _ _ => trivial))) | ((with_reducible show ∃ _, _); first | (refine ⟨0, rfl, hl0, ?_⟩)) | intro _)
 all_goals first | (exfalso; have := hget 0; omega) | (obtain ⟨rfl, rfl⟩ := hB (fun h => by have := h.1; omega); rfl) | skip
 refine yZ (T := {k : Nat // k + 1 <= 4 /\ ∀ j, 1 <= j -> j < k + 1 -> B j / 64 = 2}) (fun t => ⟨[(0, .str s), (4, .int .i64 (CV t.1 : Nat)), (5, .int .i64 4), (6, .int .i64 65536), (7, .int .i64 ((t.1 : Nat) + 1))], [], 0, 81⟩) (fun t => 4 - t.1) ⟨0, by omega, fun j h1 h2 => by omega⟩ [] [] (fun t I hI => ?_)
 obtain ⟨k, hk, hj⟩ := t
 dsimp only
 have hk3 : k <= 3 := by omega
 have YO : CV k <= 8388607 := by
  have : k = 0 \/ k = 1 \/ k = 2 \/ k = 3 := by omega
  rcases this with rfl | rfl | rfl | rfl <;> omega
 have hb1 := hbt (k + 1)
 have hs1 := hst k
 have hg1 := hget (k + 1)
 by_cases hlt : k + 1 < 4
 ·repeat' (first | exact ⟨⟩ | refine yG ?_ ?_ | ((with_reducible show ∃ _ : SV, _); first | (refine ⟨.int .u8 ((B (k + 1) / 64 * 64 : Nat) : Int), ?ok, xq _ (by rw [hg1]; exact Bi.u8_and (B (k + 1)) 192 _ (by omega) (by omega) (Bi.E5 _ (by omega))), ?_⟩; (case ok => exact fun _ _ => trivial)) | (refine ⟨.int .u8 ((B (k + 1) % 64 : Nat) : Int), ?ok, xq _ (by rw [hg1]; exact Bi.u8_and (B (k + 1)) 63 _ (by omega) (by omega) (Bi.Kt _)), ?_⟩; (case ok => exact fun _ _ => trivial)) | (refine ⟨.int .i64 ((CV k * 64 : Nat) : Int), ?ok, ML 6 _ rfl (by rw [Int.natCast_mul]; rfl) (by decide) (by simp only [uu]; omega), ?_⟩; (case ok => exact fun _ _ => trivial)) | (refine ⟨.int .i64 ((CV k * 64 + B (k + 1) % 64 : Nat) : Int), ?ok, XU _ (Bi.KX (CV k * 64) (B (k + 1) % 64) _ (by omega) (by omega) (Bi.Sm _ _ (by omega))), ?_⟩; (case ok => exact fun _ _ => trivial))) | ((with_reducible show ∃ _, _); first | (refine ⟨k + 1, rfl, by omega, ?_⟩)) | intro _)
  all_goals first | (exfalso; omega) | (obtain ⟨rfl, rfl⟩ := hB (fun h => by have := h.2.1 (k + 1) (by omega) hlt; omega); rfl) | (rw [<- hs1]; refine hI _ ⟨k + 1, by omega, fun j h1 h2 => (Nat.lt_or_ge j (k + 1)).elim (fun h => hj j h1 h) (fun h => by { have e : j = k + 1 := by { omega }; rw [e]; omega })⟩ (by dsimp only; omega) yW; done)
 ·have e : k = 3 := by omega
  subst e
  rw [<- hC] at *
  repeat' (first | exact ⟨⟩ | refine yG ?_ ?_ | intro _)
  all_goals first | (exfalso; omega) | (obtain ⟨rfl, rfl⟩ := hB (fun h => by have := h.2.2; omega); rfl) | (obtain ⟨rfl, rfl⟩ := hG (by omega) hj (by omega) (by omega) (by omega); rfl)
theorem VU (s : List UInt8) (w : World) (hs : s ≠ []) (hl : s.length <= 9223372036854775807) (h1 : af.bt s 0 < 128) : QC 120 #[.string (ah s)] w (.tuple #[.int .i64 (af.bt s 0 : Nat), .int .i64 1]) := by
 have hl0 := List.length_pos_iff.2 hs
 have hg0 : (s.getD 0 0).toNat = af.bt s 0 := rfl
 have hb0 := af.uB s 0
 refine yE func120 rfl results120 ntmps120 [] [] [.str s] w ?_
 repeat' (first | exact ⟨⟩ | refine yG ?_ ?_ | ((with_reducible show ∃ _, _); first | (refine ⟨0, rfl, hl0, ?_⟩)) | intro _)
 all_goals first | (exfalso; omega) | rfl
theorem VR (s : List UInt8) (w : World) (hs : s ≠ []) (hl : s.length <= 9223372036854775807) (h0 : 128 <= af.bt s 0) (h1 : af.bt s 0 < 194 \/ 245 <= af.bt s 0) : QC 120 #[.string (ah s)] w (.tuple #[.int .i64 0, .int .i64 0]) := by
 have hl0 := List.length_pos_iff.2 hs
 have hg0 : (s.getD 0 0).toNat = af.bt s 0 := rfl
 have hb0 := af.uB s 0
 refine yE func120 rfl results120 ntmps120 [] [] [.str s] w ?_
 repeat' (first | exact ⟨⟩ | refine yG ?_ ?_ | ((with_reducible show ∃ _, _); first | (refine ⟨0, rfl, hl0, ?_⟩)) | intro _)
 all_goals first | (exfalso; omega) | rfl
theorem PG (s : List UInt8) (w : World) (hs : s ≠ []) (hl : s.length <= 9223372036854775807) : QC 120 #[.string (ah s)] w (.tuple #[.int .i64 ((af.rune s).1 : Nat), .int .i64 ((af.rune s).2 : Nat)]) := by
 have b0 := af.uB s 0
 have b1 := af.uB s 1
 have b2 := af.uB s 2
 have b3 := af.uB s 3
 by_cases c1 : af.bt s 0 < 128
 ·rw [af.XF hs c1]; exact VU s w hs hl c1
 by_cases c2 : af.bt s 0 < 194 \/ 245 <= af.bt s 0
 ·rw [af.XD hs (by omega) c2]; exact VR s w hs hl (by omega) c2
 by_cases c3 : af.bt s 0 < 224
 ·have hr := af.XG hs (by omega) c3
  refine VW s _ _ w hs hl (by omega) c3 _ rfl (fun h1 h2 h3 h4 h5 => ?_) (fun h => ?_)
  ·rw [hr, if_pos ⟨by omega, h2 1 (by omega) (by omega)⟩]; exact ⟨rfl, rfl⟩
  ·rw [hr, if_neg]
   ·exact ⟨rfl, rfl⟩
   ·rintro ⟨h1, h2⟩
    refine h ⟨by omega, fun j j1 j2 => by have e : j = 1 := by { omega }; rw [e]; exact h2, ?_⟩
    show 128 <= af.bt s 0 % 32 * 64 + af.bt s 1 % 64 /\ (af.bt s 0 % 32 * 64 + af.bt s 1 % 64 < 55296 \/ 57344 <= af.bt s 0 % 32 * 64 + af.bt s 1 % 64) /\ af.bt s 0 % 32 * 64 + af.bt s 1 % 64 <= 1114111
    omega
 by_cases c4 : af.bt s 0 < 240
 ·have hr := af.XH hs (by omega) c4
  have e : af.Dq s (af.bt s 0 % 16) 2 = af.bt s 0 % 16 * 4096 + af.bt s 1 % 64 * 64 + af.bt s 2 % 64 := by
   show (af.bt s 0 % 16 * 64 + af.bt s 1 % 64) * 64 + af.bt s 2 % 64 = _; omega
  rw [<- e] at hr
  refine VX s _ _ w hs hl (by omega) c4 _ rfl (fun h1 h2 h3 h4 h5 => ?_) (fun h => ?_)
  ·rw [hr, if_pos ⟨⟨by omega, h2 1 (by omega) (by omega)⟩, ⟨by omega, h2 2 (by omega) (by omega)⟩, h3, h4⟩]; exact ⟨rfl, rfl⟩
  ·rw [hr, if_neg]
   ·exact ⟨rfl, rfl⟩
   ·rintro ⟨⟨h1, h2⟩, ⟨h3, h4⟩, h5, h6⟩
    refine h ⟨by omega, fun j j1 j2 => ?_, h5, h6, by rw [e]; omega⟩
    have : j = 1 \/ j = 2 := by omega
    rcases this with rfl | rfl
    ·exact h2
    ·exact h4
 ·have hr := af.XI hs (by omega) (by omega)
  have e : af.Dq s (af.bt s 0 % 8) 3 = af.bt s 0 % 8 * 262144 + af.bt s 1 % 64 * 4096 + af.bt s 2 % 64 * 64 + af.bt s 3 % 64 := by
   show ((af.bt s 0 % 8 * 64 + af.bt s 1 % 64) * 64 + af.bt s 2 % 64) * 64 + af.bt s 3 % 64 = _; omega
  rw [<- e] at hr
  refine VY s _ _ w hs hl (by omega) (by omega) _ rfl (fun h1 h2 h3 h4 h5 => ?_) (fun h => ?_)
  ·rw [hr, if_pos ⟨⟨by omega, h2 1 (by omega) (by omega)⟩, ⟨by omega, h2 2 (by omega) (by omega)⟩, ⟨by omega, h2 3 (by omega) (by omega)⟩, h3, h5⟩]; exact ⟨rfl, rfl⟩
  ·rw [hr, if_neg]
   ·exact ⟨rfl, rfl⟩
   ·rintro ⟨⟨h1, h2⟩, ⟨h3, h4⟩, ⟨h5, h6⟩, h7, h8⟩
    refine h ⟨by omega, fun j j1 j2 => ?_, h7, .inr (by omega), h8⟩
    have : j = 1 \/ j = 2 \/ j = 3 := by omega
    rcases this with rfl | rfl | rfl
    ·exact h2
    ·exact h4
    ·exact h6
theorem jh (s : List UInt8) (w : World) (hs : s.length <= 9223372036854775807) : QC 61 #[.string (ah s)] w (.int .i64 (af.jV s)) := by
 have hE : af.jV s = if 32767 < s.length then 3 else if af.vG s then 0 else 23 := rfl
 have D := fun (t : List UInt8) (h0 : t ≠ []) (hl : t.length <= s.length) (w' : World) => PG t w' h0 (by omega)
 refine yE func61 rfl results61 ntmps61 [] [] [.str s] w ?_
 repeat' (first | exact ⟨⟩ | refine yG ?_ ?_ | intro _)
 all_goals first | (rw [hE, if_pos (by omega)]; rfl) | skip
 rw [if_neg (by omega)] at hE
 refine yZ (T := {t : List UInt8 // t.length <= s.length /\ af.vG t = af.vG s}) (fun t => ⟨[(0, .str t.1)], [], 0, 25⟩) (fun t => t.1.length) ⟨s, Nat.le_refl _, rfl⟩ [] [] (fun t I hI => ?_)
 obtain ⟨t, ht, hp⟩ := t
 dsimp only
 by_cases h0 : t = []
 ·subst h0
  rw [<- hp] at hE
  repeat' (first | exact ⟨⟩ | refine yG ?_ ?_ | intro _)
  all_goals first | (exfalso; simp_all; done) | (rw [hE]; rfl)
 ·have hst := af.EJ h0
  have hl := af.iL h0
  have D1 := D t h0 ht
  by_cases hd : af.dec t = (65533, 1)
  ·rw [af.nM hd] at D1
   rw [if_pos (.inl hd), hp] at hst
   rw [hst] at hE
   repeat' (first | exact ⟨⟩ | refine yG ?_ ?_ | refine yA (.bg [.int .i64 0, .int .i64 0]) (fun _ => D1) ?_ | intro _)
   all_goals first | (exfalso; omega) | (exfalso; exact (by assumption : ¬ ¬ t = []) h0) | (rw [hE]; rfl)
  ·obtain ⟨c, n, hcn⟩ : ∃ c n, af.dec t = (c, n) := ⟨_, _, rfl⟩
   rw [af.wR hcn (by rw [<- hcn]; exact hd)] at D1
   rw [hcn] at hst hl
   have hd' : ¬ (c, n) = (65533, 1) := by rw [<- hcn]; exact hd
   dsimp only at hst hl D1
   have bad : af.o6 c = false -> af.jV s = 23 := fun h => by
    have e : af.vG t = false := by rw [hst, if_pos (Or.inr h : (c, n) = (65533, 1) \/ af.o6 c = false)]
    rw [hE, <- hp, e]; rfl
   have good : af.o6 c = true -> af.vG (t.drop n) = af.vG s := fun h2 => by
    rw [<- hp, hst, if_neg (fun h => h.elim hd' (fun h => by rw [h2] at h; cases h))]
   clear hst hcn hd hd'
   repeat' (first | exact ⟨⟩ | refine yG ?_ ?_ | refine yA (.bg [.int .i64 (c : Int), .int .i64 (n : Int)]) (fun _ => D1) ?_ | refine yK (.bool (af.o6 c)) (fun β w hm => O9 c w) ?_ | ((with_reducible show ∃ _, _); first | (refine ⟨n, rfl, hl.2, ?_⟩)) | intro _)
   all_goals first | (exfalso; omega) | (exfalso; exact (by assumption : ¬ ¬ t = []) h0) | (rw [bad (by clear D D1; simp_all)]; rfl) | (refine hI _ ⟨t.drop n, by rw [List.length_drop]; omega, good (by clear D D1; simp_all)⟩ (by dsimp only; rw [List.length_drop]; omega) yW; done)
theorem dB (k kd : Int) (z : Bool) (g : Nat) (w : World) (h : w.cell? ⟨g, 0, none⟩ = some (.int .i64 kd)) : QC 72 #[.int .i64 k, .bool z, .pointer (some ⟨g, 0, none⟩)] w (.bool (decide (kd = k) || z)) := by
 have hc : ∀ w', BW w w' -> w'.cell? ((⟨g, 0, none⟩ : Addr).add 0) = some (.int .i64 kd) := fun w' hb => cell_below h hb
 refine yE func72 rfl results72 ntmps72 [] [] [.int .i64 k, .bool z, .any (.pointer (some ⟨g, 0, none⟩))] w ?_
 repeat' (first | exact ⟨⟩ | refine yG ?_ ?_ | refine yO (Wq underlying28 rfl (fun w => sizeOf3 w) (by decide)) ?_ | refine yO (v := .int .i64 kd) (dh (fun w => isAgg3 w) (fun w' hb β => hc w' hb)) ?_ | intro _)
 all_goals first | (simp_all [SV.den]; done)
theorem cZ {C : Ctx} {rows : List (Nat × Bool × aV)} {nx : Nat} {β : Nat -> Nat} {w : World} {o : Bool} {t : TypeId} {cs : List SV} {i : Nat} {v : SV} (hm : Mem C.base C.w0 rows nx β w) (h : get rows i = some (o, .cells t cs)) (hv : cs[0]? = some v) : w.cell? ⟨β i, 0, none⟩ = some (v.den β) := by
 have k1 := (hm.row i o _ h).1
 have k1 : Row w (β i) t (SV.aF β cs).toArray := k1
 rw [k1.cell]
 have := SV.kY β cs 0
 rw [hv] at this
 simpa using this
theorem Ii (a b : List UInt8) (FZ : Bool) (h : FZ = decide (a = [] /\ b = [])) : bM Tryz.prog 25 [.str a, .str b] [.str [], .str []] FZ := by
 by_cases hf : a = [] /\ b = []
 ·rw [h, decide_eq_true hf]; obtain ⟨rfl, rfl⟩ := hf; exact pF _ _
 ·rw [h, decide_eq_false hf]; exact Ij hf
theorem LU (t : af.VT) (a : Option Addr) (cap : Nat) (w : World) (hw : XV w) (hr : XR w) (hf : t.Fit) (h5 : t.kind ≠ 5) (FZ : Bool) (Xd : FZ = decide (t.num.1 = [] /\ t.num.2 = [])) (V NE TE : Int)
  (hR : (t.kind < 0 \/ 5 < t.kind) -> V = 8) (hB : ¬ (t.kind < 0 \/ 5 < t.kind) -> af.qP t -> V = 4)
  (hO : ¬ (t.kind < 0 \/ 5 < t.kind) -> ¬ af.qP t -> V = if t.kind = 1 then NE else if t.kind = 2 then TE else if t.kind = 4 /\ (t.code < 1 \/ 8 < t.code) then 2 else 0)
  (N : ∀ w', BW w w' -> QC 73 #[.agg #[.string (ah t.num.1), .string (ah t.num.2)]] w' (.int .i64 NE))
  (T : ∀ w', BW w w' -> QC 61 #[.string (ah t.text)] w' (.int .i64 TE)) :
  QC 14 #[jk t a cap] w (.int .i64 V) := by
 have F := fun (w' : World) (h : BW w w') => Cm t.code w' (hr.below h)
 have hF := qC t.code
 obtain ⟨k, ⟨n1, n2⟩, tx, on, cd, rw', cl, its⟩ := t
 unfold jk
 unfold af.qP at hB hO
 dsimp only at *
 have YA : FZ = true ↔ (n1 = [] /\ n2 = []) := by rw [Xd, decide_eq_true_eq]
 have hagg := Ii n1 n2 FZ Xd
 clear Xd hf hw hr
 generalize af.iF cd = FT at *
 generalize its.length = n at *
 refine yE func14 rfl results14 ntmps14 [] [] [.agg [.int .i64 k, .str n1, .str n2, .str tx, .bool on, .int .i64 cd, .int .i64 rw', .int .i64 cl, .any (.slice a n cap)]] w ?_
 repeat' (first | exact ⟨⟩ | refine yG ?_ ?_ | refine yK (.bool (decide (k = 1) || FZ)) (fun β w hm => dB 1 k (FZ) (β 0) w (cZ (i := 0) (v := .int .i64 k) hm rfl rfl)) ?_ | refine yK (.bool (decide (k = 2) || decide (tx = []))) (fun β w hm => dB 2 k (decide (tx = [])) (β 0) w (cZ (i := 0) (v := .int .i64 k) hm rfl rfl)) ?_ | refine yK (.bool (decide (k = 3) || !on)) (fun β w hm => dB 3 k (!on) (β 0) w (cZ (i := 0) (v := .int .i64 k) hm rfl rfl)) ?_ | refine yK (.bool (decide (k = 4) || decide (cd = 0))) (fun β w hm => dB 4 k (decide (cd = 0)) (β 0) w (cZ (i := 0) (v := .int .i64 k) hm rfl rfl)) ?_ | refine yK (.bool (decide (k = 5) || false)) (fun β w hm => dB 5 k (false) (β 0) w (cZ (i := 0) (v := .int .i64 k) hm rfl rfl)) ?_ | refine yK (.bool (decide (k = 5) || decide ((n : Int) = 0))) (fun β w hm => dB 5 k (decide ((n : Int) = 0)) (β 0) w (cZ (i := 0) (v := .int .i64 k) hm rfl rfl)) ?_ | refine yB (.int .i64 NE) (fun _ => N) ?_ | refine yB (.int .i64 TE) (fun _ => T) ?_ | refine yB (.str FT) (fun _ => F) ?_ | refine yO (aJ underlying26) ?_ | refine yO (GN) ?_ | ((with_reducible show ∃ _, _); first | (refine ⟨FZ, hagg, ?_⟩)) | intro _)
 all_goals clear N T F hagg
 all_goals first | (rw [hR (by omega)]; rfl) | (rw [hB (by omega) (by clear hB hO hR; simp_all; try omega)]; rfl) | skip
 all_goals first | (exfalso; clear hB hO hR; simp_all; done) | (rw [hO (by omega) (by clear hB hO hR; simp_all; try omega), if_pos (by assumption : k = 1)]; rfl) | (rw [hO (by omega) (by clear hB hO hR; simp_all; try omega), if_neg (by assumption : ¬ k = 1), if_pos (by assumption : k = 2)]; rfl) | (rw [hO (by omega) (by clear hB hO hR; simp_all; try omega), if_neg (by assumption : ¬ k = 1), if_neg (by assumption : ¬ k = 2), if_pos ⟨(by assumption : k = 4), hF.1 (by assumption)⟩]; rfl) | (rw [hO (by omega) (by clear hB hO hR; simp_all; try omega), if_neg (by assumption : ¬ k = 1), if_neg (by assumption : ¬ k = 2), if_neg (fun h => (by assumption : ¬ FT = []) (hF.2 h.2))]; rfl) | (rw [hO (by omega) (by clear hB hO hR; simp_all; try omega), if_neg (by assumption : ¬ k = 1), if_neg (by assumption : ¬ k = 2), if_neg (fun h => (by assumption : ¬ k = 4) h.1)]; rfl)
theorem Jy (t : af.VT) (a : Option Addr) (cap : Nat) (w : World) (hw : XV w) (hr : XR w) (hf : t.Fit) (h5 : t.kind ≠ 5) : QC 14 #[jk t a cap] w (.int .i64 (af.dY t)) :=
 LU t a cap w hw hr hf h5 _ rfl (af.dY t) (ae.bQ t.num) (af.jV t.text) oH (fun h1 h2 => kM h1 h2) (fun h1 h2 => pY h1 h2)
  (fun w' h => Dv t.num w' (hw.below h).pos hf.n1 hf.n2) (fun w' _ => jh t.text w' hf.tx)
end Go.Proofs.YtdkhkfdenlabaaaGreatDoor
