/- Values, the program: the calendar. -/
import Derived.Test.YtdkhkfdenlabaaaGreatDoorVGG
import Derived.Test.YtdkhkfdenlabaaaGreatDoorVGJ
import Derived.Test.YtdkhkfdenlabaaaGreatDoorVGP
import Derived.Test.YtdkhkfdenlabaaaGreatDoorVGT
import Derived.Test.YtdkhkfdenlabaaaGreatDoorVGN
import Derived.Test.YtdkhkfdenlabaaaGreatDoorVGO
import Derived.Lib.CountLaws
import Derived.Lib.SplitLaws
import Derived.Test.YtdkhkfdenlabaaaGreatDoorVGI
set_option linter.unusedSimpArgs false
set_option linter.unusedVariables false
set_option maxRecDepth 100000
set_option maxHeartbeats 64000000
namespace Go.Proofs.YtdkhkfdenlabaaaGreatDoor
open Go.Proofs.Tryz
section
open Go.RowKit
open Sym
attribute [local irreducible] Calls Sym.bM ae.nd ae.bu ae.upd ae.ak ae.ay
theorem KA (y : Nat) (w : World) (h1 : 1900 <= y) (h2 : y <= 20000) : QC 80 #[.int .i64 (y : Int)] w (.int .i64 (af.oU y : Nat)) := by
 rw [af.Ut h1]
 refine yE func80 rfl results80 ntmps80 [] [] [.int .i64 (y : Int)] w ?_
 repeat' (first | exact ⟨⟩ | refine yG ?_ ?_ | refine yO (qh (by omega) (by omega) (by simp only [uu]; omega)) ?_ | intro _)
 all_goals first | rfl | (simp only [SV.den]; done) | (simp only [SV.den]; congr 1; omega)
theorem IZ (y F : Nat) (w : World) (h2 : y <= 20000) (hF : F = af.dV y 2) : QC 79 #[.int .i64 (y : Int)] w (.agg #[.int .i64 31, .int .i64 (F : Nat), .int .i64 31, .int .i64 30, .int .i64 31, .int .i64 30, .int .i64 31, .int .i64 31, .int .i64 30, .int .i64 31, .int .i64 30, .int .i64 31]) := by
 have hF' : F = if af.zV y then 29 else 28 := hF
 unfold af.zV at hF'
 refine yE func79 rfl results79 ntmps79 [] [] [.int .i64 (y : Int)] w ?_
 repeat' (first | exact ⟨⟩ | refine yG ?_ ?_ | refine yO (nP rfl underlying95 (fun w => sizeOf3 w) (fun w => zeroValue95 w) rfl (vO rfl)) ?_ | refine yO (jv (by omega) (by omega)) ?_ | refine yO (zQ (j := 1) (by rfl) underlying95 (fun w => sizeOf3 w) (by omega)) ?_ | intro _)
 all_goals first | (have e : F = 29 := by { rw [hF']; simp; omega }; subst e; rfl) | (have e : F = 28 := by { rw [hF']; simp; omega }; subst e; rfl)
def af.UL (y : Nat) : List Value := [.int .i64 31, .int .i64 (af.dV y 2 : Nat), .int .i64 31, .int .i64 30, .int .i64 31, .int .i64 30, .int .i64 31, .int .i64 31, .int .i64 30, .int .i64 31, .int .i64 30, .int .i64 31]
theorem QO (y i : Nat) (h : i < 12) : (af.UL y)[i]? = some (.int .i64 (af.dV y (i + 1) : Nat)) := by
 rcases i with _ | _ | _ | _ | _ | _ | _ | _ | _ | _ | _ | _ | i
 all_goals first | (exfalso; omega) | rfl
abbrev WU (F : Nat) : List SV := [.int .i64 31, .int .i64 (F : Nat), .int .i64 31, .int .i64 30, .int .i64 31, .int .i64 30, .int .i64 31, .int .i64 31, .int .i64 30, .int .i64 31, .int .i64 30, .int .i64 31]
theorem Om (y : Nat) (β : Nat -> Nat) : SV.aF β (WU (af.dV y 2)) = af.UL y := rfl
theorem QP (y i : Nat) (h : i < 12) : (WU (af.dV y 2))[i]? = some (.int .i64 (af.dV y (i + 1) : Nat)) := by
 rcases i with _ | _ | _ | _ | _ | _ | _ | _ | _ | _ | _ | _ | i
 all_goals first | (exfalso; omega) | rfl
theorem WW (y m d : Int) (w : World) (h : y < 1900 \/ 9999 < y \/ m < 1 \/ 12 < m) : QC 29 #[.int .i64 y, .int .i64 m, .int .i64 d] w (.tuple #[.int .i64 0, .bool false]) := by
 refine yE func29 rfl results29 ntmps29 [] [] [.int .i64 y, .int .i64 m, .int .i64 d] w ?_
 repeat' (first | exact ⟨⟩ | refine yG ?_ ?_ | intro _)
 all_goals first | rfl | (exfalso; omega)
theorem WV (y m : Nat) (d : Int) (w : World) (h1 : 1900 <= y) (h2 : y <= 9999) (h3 : m < 12) (D : Nat) (hD : D = af.dV y (m + 1)) (n : Int) (ok : Bool) (hn : n = if 1 <= d /\ d <= D then ((af.oU y + af.je y m : Nat) : Int) + d else 0) (hok : ok = decide (1 <= d /\ d <= D)) :
  QC 29 #[.int .i64 (y : Int), .int .i64 ((m + 1 : Nat) : Int), .int .i64 d] w (.tuple #[.int .i64 n, .bool ok]) := by
 have L := fun (w' : World) => IZ y _ w' (by omega) rfl
 have B := fun (w' : World) => KA y w' h1 (by omega)
 have hbl : af.oU y <= 2958464 := by
  have e4 := (af.vS h1 (10000 - y)).1
  rw [show y + (10000 - y) = 10000 by omega, af.E8] at e4
  omega
 have hms := af.FX y
 have ZP := af.rO y (m + 1)
 rw [<- hD] at ZP
 have hg := QO y
 have hgs := QP y
 have hds := Om y
 have hst : ∀ i, af.je y (i + 1) = af.je y i + af.dV y (i + 1) := fun _ => rfl
 have hz : af.je y 0 = 0 := rfl
 have hll : (af.UL y).length = 12 := rfl
 have hml := af.rO y
 generalize af.UL y = DL at *
 generalize af.je y = MS at *
 generalize af.oU y = BY at *
 generalize af.dV y = MD at *
 refine yE func29 rfl results29 ntmps29 [100035, 100044] [] [.int .i64 (y : Int), .int .i64 ((m + 1 : Nat) : Int), .int .i64 d] w ?_
 have hgo := hgs m h3
 rw [<- hD] at hgo
 repeat' (first | exact ⟨⟩ | refine yG ?_ ?_ | refine yA (.agg (WU (MD 2))) (fun _ => L) ?_ | refine yA (.int .i64 (BY : Nat)) (fun _ => B) ?_ | (refine O5 (.int .i64 (D : Nat)) rfl (fun w => isAgg3 w) rfl rfl (by rw [Nat.zero_add, Nat.mul_one]; exact hgo) ?_) | (refine VA (j := m) DL rfl rfl rfl (by omega) rfl underlying95 (fun w => sizeOf3 w) hds hll (by unfold maxLen; omega) (by omega) (fun g => ?_)) | refine yO (zQ (j := m) (by omega) underlying95 (fun w => sizeOf3 w) (by omega)) ?_ | refine yO (aJ underlying69) ?_ | intro _)
 all_goals first | (have e : ¬ (1 <= d /\ d <= (D : Int)) := by { omega }; rw [hn, hok, if_neg e, decide_eq_false e]; rfl) | skip
 have e : 1 <= d /\ d <= (D : Int) := by omega
 rw [if_pos e] at hn
 rw [decide_eq_true e] at hok
 subst hok
 have hme := hms m
 refine yZ (T := {i : Nat // i <= m}) (fun t => ⟨[(9, .int .i64 ((BY : Int) + d + (MS t.1 : Nat))), (44, .any (.slice (some ⟨g, 0, none⟩) m 12)), (45, .int .i64 (m : Nat)), (46, .int .i64 (t.1 : Nat))], [(0, true, .aK (dN 95 1 g 12 12 DL))], 1, 55⟩) (fun t => m - t.1) ⟨0, Nat.zero_le _⟩ [] [] (fun t I hI => ?_) yW
 obtain ⟨i, hi⟩ := t
 dsimp only
 have hsi := hst i
 have hmi := hms i
 have hmm := hml (i + 1)
 by_cases hlt : i < m
 ·repeat' (first | exact ⟨⟩ | refine yG ?_ ?_ | refine yN (j := i) underlying69 sizeOf3 ?_ | refine yO (v := .int .i64 (MD (i + 1) : Nat)) (kW 0 (.int .i64 (MD (i + 1) : Nat)) (fun w => isAgg3 w) rfl (fun β => by rw [Nat.mul_one]; exact hg i (by omega))) ?_ | intro _)
  all_goals first | (exfalso; omega) | (refine hI _ ⟨i + 1, by omega⟩ (by dsimp only; omega) yW; done)
 ·repeat' (first | exact ⟨⟩ | refine yG ?_ ?_ | intro _)
  all_goals first | (exfalso; omega) | (have e : i = m := by { omega }; subst e; rw [hn]; simp only [SV.den, SV.aF]; congr 4; omega)
theorem UM (y m d : Int) (w : World) : QC 29 #[.int .i64 y, .int .i64 m, .int .i64 d] w (.tuple #[.int .i64 (af.o8 y m d), .bool (decide (af.xG y m d))]) := by
 by_cases h : y < 1900 \/ 9999 < y \/ m < 1 \/ 12 < m
 ·have hp : ¬ af.xG y m d := fun hp => by have := hp.1; have := hp.2.1; have := hp.2.2.1; have := hp.2.2.2.1; omega
  rw [decide_eq_false hp, af.o8, if_neg hp]
  exact WW y m d w h
 ·obtain ⟨y, rfl⟩ : ∃ k : Nat, y = (k : Int) := ⟨y.toNat, by omega⟩
  obtain ⟨m, rfl⟩ : ∃ k : Nat, m = ((k + 1 : Nat) : Int) := ⟨m.toNat - 1, by omega⟩
  have hq : af.xG (y : Int) ((m + 1 : Nat) : Int) d ↔ 1 <= d /\ d <= ((af.dV y (m + 1) : Nat) : Int) := by
   unfold af.xG
   rw [Int.toNat_natCast, Int.toNat_natCast]
   constructor
   ·intro h; exact h.2.2.2.2
   ·intro h; exact ⟨by omega, by omega, by omega, by omega, h⟩
  refine WV y m d w (by omega) (by omega) (by omega) _ rfl _ _ ?_ (by rw [decide_eq_decide]; exact hq)
  unfold af.o8
  by_cases hd : 1 <= d /\ d <= ((af.dV y (m + 1) : Nat) : Int)
  ·rw [if_pos hd, if_pos (hq.2 hd), Int.toNat_natCast, Int.toNat_natCast]; rfl
  ·rw [if_neg hd, if_neg (fun h => hd (hq.1 h))]
theorem Es (y : Nat) (w : World) (hy : y <= 100000) : QC 82 #[.int .i64 (y : Int)] w (.bool (af.zV y)) := by
 refine yE func82 rfl results82 ntmps82 [] [] [.int .i64 (y : Int)] w ?_
 repeat' (first | exact ⟨⟩ | refine yG ?_ ?_ | refine yO (jv (by omega) (by omega)) ?_ | intro _)
 all_goals (simp only [SV.den, af.zV]; congr 1; rw [Bool.eq_iff_iff]; simp; omega)
theorem ve (y m : Nat) (w : World) (hy : y <= 100000) : QC 81 #[.int .i64 (y : Int), .int .i64 (m : Int)] w (.int .i64 (af.dV y m : Nat)) := by
 have L := fun (w' : World) => Es y w' hy
 have hA : m = 2 -> af.zV y = true -> af.dV y m = 29 := fun h1 h2 => by unfold af.dV; rw [if_pos h1, if_pos h2]
 have hB : m = 2 -> af.zV y = false -> af.dV y m = 28 := fun h1 h2 => by unfold af.dV; rw [if_pos h1, if_neg (by rw [h2]; exact Bool.false_ne_true)]
 have hC : m ≠ 2 -> (m = 4 \/ m = 6 \/ m = 9 \/ m = 11) -> af.dV y m = 30 := fun h1 h2 => by unfold af.dV; rw [if_neg h1, if_pos h2]
 have hD : m ≠ 2 -> ¬ (m = 4 \/ m = 6 \/ m = 9 \/ m = 11) -> af.dV y m = 31 := fun h1 h2 => by unfold af.dV; rw [if_neg h1, if_neg h2]
 generalize af.dV y m = M at *
 generalize af.zV y = lp at *
 refine yE func81 rfl results81 ntmps81 [] [] [.int .i64 (y : Int), .int .i64 (m : Int)] w ?_
 repeat' (first | exact ⟨⟩ | refine yG ?_ ?_ | refine yA (.bool lp) (fun _ => L) ?_ | intro _)
 all_goals first | (rw [hC (by omega) (by omega)]; rfl) | (rw [hD (by omega) (by omega)]; rfl) | (rw [hA (by omega) (by assumption)]; rfl) | (rw [hB (by omega) (by assumption)]; rfl)
theorem VM (y m d : Int) (w : World) (h : ¬ af.xG y m d) : QC 30 #[.int .i64 y, .int .i64 m, .int .i64 d] w (.int .i64 0) := by
 by_cases h0 : y < 1900 \/ 9999 < y \/ m < 1 \/ 12 < m \/ d < 1
 ·refine yE func30 rfl results30 ntmps30 [] [] [.int .i64 y, .int .i64 m, .int .i64 d] w ?_
  repeat' (first | exact ⟨⟩ | refine yG ?_ ?_ | intro _)
  all_goals first | rfl | (exfalso; omega)
 ·obtain ⟨y, rfl⟩ : ∃ k : Nat, y = (k : Int) := ⟨y.toNat, by omega⟩
  obtain ⟨m, rfl⟩ : ∃ k : Nat, m = (k : Int) := ⟨m.toNat, by omega⟩
  have D := fun (w' : World) => ve y m w' (by omega)
  unfold af.xG at h
  rw [Int.toNat_natCast, Int.toNat_natCast] at h
  have hd : (af.dV y m : Int) < d := by omega
  have hb := af.rO y m
  generalize af.dV y m = M at *
  refine yE func30 rfl results30 ntmps30 [] [] [.int .i64 (y : Int), .int .i64 (m : Int), .int .i64 d] w ?_
  repeat' (first | exact ⟨⟩ | refine yG ?_ ?_ | refine yA (.int .i64 (M : Nat)) (fun _ => D) ?_ | intro _)
  all_goals first | rfl | (exfalso; omega)
theorem SQ (y m : Nat) (d : Int) (w : World) (h1 : 1900 <= y) (h2 : y <= 9999) (h3 : m < 12) (hd : 1 <= d /\ d <= (af.dV y (m + 1) : Nat)) : QC 30 #[.int .i64 (y : Int), .int .i64 ((m + 1 : Nat) : Int), .int .i64 d] w (.int .i64 (((af.oU y + af.je y m : Nat) : Int) + d)) := by
 have D0 := fun (w' : World) => ve y (m + 1) w' (by omega)
 have D1 := fun (k : Nat) (w' : World) => ve y k w' (by omega)
 have hmd := af.rO y
 have hms := af.FX y
 have hst : ∀ i, af.je y (i + 1) = af.je y i + af.dV y (i + 1) := fun _ => rfl
 have hz : af.je y 0 = 0 := rfl
 have hbef := fun k (h : 1900 <= k) => af.vT h
 have YR := fun k (h : 1900 <= k) (h' : k <= y) => (af.vS h (10000 - k)).1
 have hbz := af.Oc
 have hend := af.E8
 have WB : ∀ k, 1900 <= k -> k <= y -> af.oU k <= 2958464 := fun k a b => by
  have := YR k a b
  rw [show k + (10000 - k) = 10000 by omega, hend] at this
  omega
 clear YR hend
 generalize af.je y = MS at *
 generalize af.dV y = MD at *
 refine yE func30 rfl results30 ntmps30 [] [] [.int .i64 (y : Int), .int .i64 ((m + 1 : Nat) : Int), .int .i64 d] w ?_
 repeat' (first | exact ⟨⟩ | refine yG ?_ ?_ | refine yA (.int .i64 (MD (m + 1) : Nat)) (fun _ => D0) ?_ | intro _)
 all_goals first | (exfalso; have := hmd (m + 1); omega) | skip
 refine yZ (T := {k : Nat // 1900 <= k /\ k <= y}) (fun t => ⟨[(0, .int .i64 (y : Int)), (1, .int .i64 ((m + 1 : Nat) : Int)), (7, .int .i64 (d + (af.oU t.1 : Nat))), (8, .int .i64 (t.1 : Nat))], [], 0, 58⟩) (fun t => y - t.1) ⟨1900, Nat.le_refl _, h1⟩ [] [] (fun t I hI => ?_)
 obtain ⟨k, hk0, hk1⟩ := t
 dsimp only
 have hb1 := hbef k hk0
 have hm1 := WB k hk0 hk1
 have hd31 := hmd (m + 1)
 have L := fun (w' : World) => Es k w' (by omega)
 unfold af.uH at hb1
 by_cases hlt : k < y
 ·cases hl : af.zV k with
  | true =>
    rw [hl] at L hb1
    rw [if_pos rfl] at hb1
    repeat' (first | exact ⟨⟩ | refine yG ?_ ?_ | refine yA (.lit true) (fun _ => L) ?_ | intro _)
    all_goals first | (exfalso; omega) | (refine hI _ ⟨k + 1, by omega, by omega⟩ (by dsimp only; omega) yW; done)
  | false =>
    rw [hl] at L hb1
    rw [if_neg Bool.false_ne_true] at hb1
    repeat' (first | exact ⟨⟩ | refine yG ?_ ?_ | refine yA (.lit false) (fun _ => L) ?_ | intro _)
    all_goals first | (exfalso; omega) | (refine hI _ ⟨k + 1, by omega, by omega⟩ (by dsimp only; omega) yW; done)
 ·have hky : k = y := by omega
  subst hky
  clear hI hb1 L hbef WB
  generalize af.oU k = BY at *
  repeat' (first | exact ⟨⟩ | refine yG ?_ ?_ | intro _)
  all_goals first | (exfalso; omega) | skip
  refine yZ (T := {i : Nat // i <= m}) (fun t => ⟨[(0, .int .i64 (k : Int)), (1, .int .i64 ((m + 1 : Nat) : Int)), (7, .int .i64 (d + (BY : Nat) + (MS t.1 : Nat))), (9, .int .i64 ((t.1 : Nat) + 1))], [], 0, 58⟩) (fun t => m - t.1) ⟨0, Nat.zero_le _⟩ [] [] (fun t I hI => ?_)
  obtain ⟨i, hi⟩ := t
  dsimp only
  have h5 := hst i
  have h6 := hmd (i + 1)
  have h8 := hms i
  have D2 := D1 (i + 1)
  rw [show ((i + 1 : Nat) : Int) = (i : Int) + 1 from rfl] at D2
  repeat' (first | exact ⟨⟩ | refine yG ?_ ?_ | refine yA (.int .i64 (MD (i + 1) : Nat)) (fun _ => D2) ?_ | intro _)
  all_goals first | (exfalso; omega) | (refine hI _ ⟨i + 1, by omega⟩ (by dsimp only; omega) yW; done) | (have e : i = m := by { omega }; subst e; have e2 : d + (BY : Nat) + (MS i : Nat) = ((BY + MS i : Nat) : Int) + d := by { omega }; rw [<- e2]; rfl)
theorem SN (y m d : Int) (w : World) : QC 30 #[.int .i64 y, .int .i64 m, .int .i64 d] w (.int .i64 (af.o8 y m d)) := by
 by_cases h : af.xG y m d
 ·have hp := h
  obtain ⟨h1, h2, h3, h4, h5, h6⟩ := h
  obtain ⟨y, rfl⟩ : ∃ k : Nat, y = (k : Int) := ⟨y.toNat, by omega⟩
  obtain ⟨m, rfl⟩ : ∃ k : Nat, m = ((k + 1 : Nat) : Int) := ⟨m.toNat - 1, by omega⟩
  rw [Int.toNat_natCast, Int.toNat_natCast] at h6
  rw [af.o8, if_pos hp, Int.toNat_natCast, Int.toNat_natCast]
  exact SQ y m d w (by omega) (by omega) (by omega) ⟨h5, h6⟩
 ·rw [af.o8, if_neg h]
  exact VM y m d w h
end
section
open Go.RowKit
open Sym
theorem ae.J7 : ae.ay ⟨false, 25, 1⟩ = 0 /\ ae.ay ⟨false, 25, 100⟩ = 0 /\ ae.ak ⟨false, 25, 100⟩ = ([49], [52]) := by
 have h25 : ae.nd 10 25 <= 300 := Nat.le_trans (ae.dX (n := 2) (by omega) (by decide)) (by omega)
 have Iy : ae.nd 10 100 <= 300 := Nat.le_trans (ae.dX (n := 3) (by omega) (by decide)) (by omega)
 have h1 : ae.nd 10 1 <= 300 := by rw [ae.gq (by omega)]; omega
 have a := (ae.Dn (x := ⟨false, 25, 1⟩) rfl Nat.one_pos h25 h1).1
 have b := (ae.Dn (x := ⟨false, 25, 100⟩) rfl (by decide) h25 Iy).1
 refine ⟨a, b, ?_⟩
 have hn : ¬ (⟨false, 25, 100⟩ : ae.Num).n = 0 := by decide
 have ho : ¬ ae.lg ⟨false, 25, 100⟩ := fun h => by
  unfold ae.ay at b
  rw [if_neg hn, if_pos h] at b; cases b
 unfold ae.ak
 rw [if_neg hn, if_neg ho]
 have e1 : ae.gI ⟨false, 25, 100⟩ = 1 := by decide
 have e2 : ae.iq ⟨false, 25, 100⟩ = 4 := by decide
 rw [e1, e2, Lib.decDigits_one (by omega), Lib.decDigits_one (by omega)]
 rfl
theorem af.RY : af.nT [50, 53, 37] = some ⟨false, 25, 100⟩ := by
 have h1 : af.nT [50, 53, 37] = af.wJ [50, 53] true := by kernel_rfl
 have h2 : ae.jM [50, 53] = 0 := by decide +kernel
 have h3 : ae.fA [50, 53] = ⟨false, 25, 1⟩ := by rfl
 have h4 : ae.aG ⟨false, 25, 1⟩ (-2) = ⟨false, 25, 100⟩ := by rfl
 obtain ⟨a, b, -⟩ := ae.J7
 rw [h1]
 unfold af.wJ
 rw [h2, h3, h4, a, b]
 simp
theorem af.XM : af.jV [50, 53, 37] = 0 := by decide +kernel
section
attribute [local irreducible] Calls Sym.bM ae.nd ae.bu ae.upd ae.ak ae.ay af.bD
theorem Q9 (w : World) (hw : XV w) : Calls Tryz.prog 11 #[.string (ah [50, 53, 37])] w (ql (af.iR ([49], [52])) w) := by
 obtain ⟨F, hF, hN⟩ := BN [50, 53, 37] w hw (by decide) (by decide)
 have e := hF _ af.RY
 rw [ae.J7.2.2] at e
 subst e
 rw [af.RY] at hN
 have hE : ae.bQ (([49], [52]) : ae.Fr) = 0 := by decide +kernel
 refine Ov [50, 53, 37] [50, 53, 37] [49] [52] w hw (by decide) af.XM (by decide) (by decide) (fun w' h => GH _ w' (hw.below h).pos (by decide) (by decide)) (by decide) (by decide) ?_ hN (fun w' h => ?_)
 ·intro i h1 h2
  rcases i with _ | _ | _ | _ | _ | _ | _ | _ | _ | i
  all_goals first | (exfalso; omega) | (unfold af.bD; decide)
 ·have := zO ([49], [52]) w' (hw.below h) (by decide) (by decide)
  rwa [if_pos hE] at this
theorem MC (w : World) (hw : XV w) : QC 9 #[] w (.bool true) := by
 have N := fun (w' : World) (h : BW w w') => Q9 w' (hw.below h)
 have S := fun (w' : World) => Tq ([49], [52]) w'
 refine yE func9 rfl results9 ntmps9 [] [] [] w ?_
 repeat' (first | exact ⟨⟩ | refine yG ?_ ?_ | refine yB (.agg [.int .i64 1, .str [49], .str [52], .str [], .lit false, .int .i64 0, .int .i64 0, .int .i64 0, .any (.slice none 0 0)]) (fun _ => N) ?_ | refine yA (.lit true) (fun _ => S) ?_ | intro _)
 all_goals first | rfl
end
end
section
open Go.RowKit
open Sym
attribute [local irreducible] Calls Sym.bM ae.nd ae.bu ae.upd ae.ak ae.ay
theorem LM (t x : af.VT) (r : List af.VT) (a : Option Addr) (cap : Nat) (w : World) (hw : XR w) (hw0 : 0 < w.heap.size) (ht : oL w t a cap) (h5 : t.kind = 5) (hx : t.items = x :: r) (hx5 : x.kind ≠ 5) (hE : af.dY x = 0) :
  QC 46 #[jk t a cap] w (.string (ah (af.showS x))) := by
 obtain ⟨⟨p1, p2⟩, ad, rfl, hxi, hld⟩ := ht.first hx
 have C := fun (w' : World) (hb : BW w w') => yz x p1 p2 w' (hw.below hb) (zl hw0 hb.size) hx5 hE
 clear ht hE hxi
 have hn1 : 0 < t.items.length := by rw [hx]; simp
 clear hx
 obtain ⟨k, ⟨n1, n2⟩, tx, on, cd, rw', cl, its⟩ := t
 unfold jk at *
 dsimp only at *
 generalize its.length = n at *
 subst h5
 generalize af.showS x = R at *
 obtain ⟨xk, ⟨m1, m2⟩, xt, xo, xc, xr, xl, xi⟩ := x
 dsimp only at *
 generalize xi.length = xn at *
 refine yE func46 rfl results46 ntmps46 [] [] [.agg [.int .i64 5, .str n1, .str n2, .str tx, .bool on, .int .i64 cd, .int .i64 rw', .int .i64 cl, .any (.slice (some ad) n cap)]] w ?_
 repeat' (first | exact ⟨⟩ | refine yG ?_ ?_ | refine yN (j := 0) underlying26 sizeOf28 ?_ | (refine ⟨_, ?ok, jL (vs := [.int .i64 xk, .str m1, .str m2, .str xt, .bool xo, .int .i64 xc, .int .i64 xr, .int .i64 xl, .any (.slice p1 xn p2)]) (fun w => isAgg28 w) (fun w => sizeOf28 w) hld, ?_⟩; (case ok => exact fun _ _ => ⟨trivial, trivial, trivial, trivial, trivial, trivial, trivial, trivial, rfl, trivial⟩)) | refine yB (.str R) (fun _ => C) ?_ | intro _)
 all_goals first | (exfalso; omega) | rfl
theorem PH (t : af.VT) (a : Option Addr) (cap : Nat) (w : World) (hw : XR w) (hw0 : 0 < w.heap.size) (ht : oL w t a cap) (hE : af.iW t = 0) :
  QC 46 #[jk t a cap] w (.string (ah (af.showT t))) := by
 by_cases h5 : t.kind = 5
 ·obtain ⟨x, r, hx, h1, h2⟩ := af.sQ hE h5
  have e : af.showT t = af.showS x := by unfold af.showT; rw [if_pos h5, hx]
  rw [e]
  exact LM t x r a cap w hw hw0 ht h5 hx h1 h2
 ·have e : af.showT t = af.showS t := by unfold af.showT; rw [if_neg h5]
  rw [e]
  exact yz t a cap w hw hw0 h5 (af.Gw hE h5)
theorem Xq (V : ae.Num) (F : ae.Fr) (a c b e) (w : World) (hw0 : 0 < w.heap.size) (hx : aX .i64 10 ⟨V.m, V.n, V.d, a, c, b, e⟩ w) (hd : 0 < V.d) (ng : ae.nd 10 V.n <= 300) (hxd : ae.nd 10 V.d <= 300) (hF : ae.ak V = F) (hE : ae.ay V = 0) :
  QC 52 #[iI F, .int .i64 0, bI.val 10 ⟨V.m, V.n, V.d, a, c, b, e⟩] w (.bool true) :=
 OL F 0 ⟨V.m, V.n, V.d, a, c, b, e⟩ w hw0 hx hd (Nat.le_trans ng (by omega)) (Nat.le_trans hxd (by omega)) hF.symm hE.symm
section
variable (t : af.VT) (a : Option Addr) (cap : Nat) (w : World) (hw : XV w) (hr : XR w) (hw0 : 0 < w.heap.size) (ht : oL w t a cap)
 (EV : ∀ (s : List UInt8) (w' : World), BW w w' -> s.length <= 9223372036854775807 -> QC 11 #[.string (ah s)] w' (jk (af.bG s) none 0))
 (ER : ∀ (s : List UInt8) (w' : World), BW w w' -> s.length <= 9223372036854775807 -> QC 12 #[.string (ah s)] w' (jk (af.bG s) none 0))
 (EG : ∀ s, (af.bG s).kind = 1 -> ae.bQ (af.bG s).num = 0)
 (O1 : ∀ w', BW w w' -> QC 77 #[.int .i64 1] w' (iI ([49], [49]))) (O0 : ∀ w', BW w w' -> QC 77 #[.int .i64 0] w' (iI ([48], [49])))
include hw hr hw0 ht EV ER EG O1 O0
theorem Hz : QC 8 #[jk t a cap] w (.bool true) := by
 have B := fun {w1 w2 : World} (h1 : BW w w1) (h2 : BW w1 w2) => (h1.trans (h2.mono h1.size) : BW w w2)
 have V := fun (w' : World) (h : BW w w') => MC w' (hw.below h)
 have P1 := fun (w' : World) (h : BW w w') => Qb t a cap w' (hw.below h) (zl hw0 h.size) (ht.lift h)
 have Q1 := fun (w' : World) (h : BW w w') => Ez t a cap w' (hw.below h) (hr.below h) (ht.lift h)
 have Q2 := fun (hE : af.iW t = 0) (w' : World) (h : BW w w') => PH t a cap w' (hr.below h) (zl hw0 h.size) (ht.lift h) hE
 have P3 := fun (w' : World) (h : BW w w') => MI t a cap w' (hw.below h) (zl hw0 h.size) (ht.lift h) (fun s w2 h2 => EV s w2 (B h h2)) (fun w2 h2 => O1 w2 (B h h2)) (fun w2 h2 => O0 w2 (B h h2))
 have P4 := fun (w' : World) (h : BW w w') => J5 t a cap w' (hw.below h) (zl hw0 h.size) (ht.lift h)
 have P5 := fun (w' : World) (h : BW w w') => J4 t a cap w' (hw.below h) (zl hw0 h.size) (ht.lift h) (fun s w2 h2 => EV s w2 (B h h2))
 have Q3 := fun (w' : World) (h : BW w w') => LP t a cap w' (hw.below h) (hr.below h) (zl hw0 h.size) (ht.lift h) (fun s w2 h2 => ER s w2 (B h h2)) EG
 have Q4 := fun (w' : World) (h : BW w w') => Ju t a cap w' (hw.below h) (hr.below h) (zl hw0 h.size) (ht.lift h)
 have Q5 := fun (w' : World) (h : BW w w') => Jt t a cap w' (hw.below h) (hr.below h) (ht.lift h) (fun s w2 h2 => ER s w2 (B h h2))
 have N1 := af.Y6 t EG
 have N2 := af.Xv t
 have FR := fun (hn : af.Uc t = 0) (a c b e) (w' : World) (h : BW w w') hx => Xq (af.Ud t) (af.WH t) a c b e w' (zl hw0 h.size) hx (N1 hn).2.2.2.2 (N1 hn).2.2.1 (N1 hn).2.2.2.1 (N1 hn).1 (N1 hn).2.1
 clear N1 B EV ER EG O1 O0 hw hr ht
 generalize af.iW t = E at *
 generalize af.showT t = ST at *
 generalize af.Zi t = TT at *
 generalize af.toC t = TC at *
 generalize af.Yo t = BB at *
 generalize af.Yp t = BC at *
 generalize af.Uc t = NC at *
 generalize af.Ud t = NN at *
 generalize af.WH t = NF at *
 obtain ⟨N1, N3⟩ := NF
 obtain ⟨m, nn, d⟩ := NN
 obtain ⟨k, ⟨n1, n2⟩, tx, on, cd, rw', cl, its⟩ := t
 unfold jk at *
 dsimp only at *
 generalize its.length = n at *
 have go : ∀ S : List UInt8, (if E = 0 then ST else []) = S -> (E = 0 -> S = ST) -> (E ≠ 0 -> S = []) -> QC 8 #[.agg #[.int .i64 k, .string (ah n1), .string (ah n2), .string (ah tx), .bool on, .int .i64 cd, .int .i64 rw', .int .i64 cl, .slice a n cap]] w (.bool true) := fun S hS hS0 hS1 => by
  rw [hS] at P1
  by_cases hn : NC = 0
  ·have FR := FR hn
   rw [hn] at P3 Q3
   refine yE func8 rfl results8 ntmps8 [] [] [.agg [.int .i64 k, .str n1, .str n2, .str tx, .bool on, .int .i64 cd, .int .i64 rw', .int .i64 cl, .any (.slice a n cap)]] w ?_
   repeat' (first | exact ⟨⟩ | refine yG ?_ ?_ | refine yB (.lit true) (fun _ => V) ?_ | refine yB (.bg [.str S, .int .i64 E]) (fun _ => P1) ?_ | refine yB (.int .i64 E) (fun _ => Q1) ?_ | refine yK (.str ST) (fun β w hm => Q2 (by omega) w hm.below) ?_ | refine yB (.bg [.agg [.str N1, .str N3], .int .i64 0]) (fun _ => P3) ?_ | refine yB (.bg [.str TT, .int .i64 TC]) (fun _ => P4) ?_ | refine yB (.bg [.bool BB, .int .i64 BC]) (fun _ => P5) ?_ | (refine eG .i64 10 ⟨m, nn, d⟩ 0 hw0 (by kernel_rfl) rfl (fun β w' hm => Q3 w' hm.below) (fun a1 c1 a2 c2 hcap => ?_)) | refine yB (.bg [.str TT, .int .i64 TC]) (fun _ => Q4) ?_ | refine yB (.bg [.bool BB, .int .i64 BC]) (fun _ => Q5) ?_ | refine yK (.lit true) (fun β w hm => FR a1 c1 a2 c2 w hm.below (aX.of (df hm) (df hm) hcap)) ?_ | (refine ⟨true, pF _ _, ?_⟩) | refine yO (v := .lit true) (qO BB BB true (fun _ => rfl) (fun _ => rfl) (by simp) underlying4) ?_ | intro _)
   all_goals first | (exfalso; omega) | rfl | (exfalso; simp_all; done) | (simp [SV.den]; done)
  ·obtain ⟨rfl, rfl⟩ := Prod.mk.inj (N2 hn)
   refine yE func8 rfl results8 ntmps8 [] [] [.agg [.int .i64 k, .str n1, .str n2, .str tx, .bool on, .int .i64 cd, .int .i64 rw', .int .i64 cl, .any (.slice a n cap)]] w ?_
   repeat' (first | exact ⟨⟩ | refine yG ?_ ?_ | refine yB (.lit true) (fun _ => V) ?_ | refine yB (.bg [.str S, .int .i64 E]) (fun _ => P1) ?_ | refine yB (.int .i64 E) (fun _ => Q1) ?_ | refine yK (.str ST) (fun β w hm => Q2 (by omega) w hm.below) ?_ | refine yB (.bg [.agg [.str [], .str []], .int .i64 NC]) (fun _ => P3) ?_ | refine yB (.bg [.str TT, .int .i64 TC]) (fun _ => P4) ?_ | refine yB (.bg [.bool BB, .int .i64 BC]) (fun _ => P5) ?_ | (refine eG .i64 10 ⟨m, nn, d⟩ NC hw0 (by kernel_rfl) rfl (fun β w' hm => Q3 w' hm.below) (fun a1 c1 a2 c2 hcap => ?_)) | refine yB (.bg [.str TT, .int .i64 TC]) (fun _ => Q4) ?_ | refine yB (.bg [.bool BB, .int .i64 BC]) (fun _ => Q5) ?_ | (refine ⟨true, pF _ _, ?_⟩) | refine yO (v := .lit true) (qO BB BB true (fun _ => rfl) (fun _ => rfl) (by simp) underlying4) ?_ | intro _)
   all_goals first | (exfalso; omega) | rfl | (exfalso; simp_all; done) | (simp [SV.den]; done)
 by_cases h : E = 0
 ·exact go ST (if_pos h) (fun _ => rfl) (fun h' => absurd h h')
 ·exact go [] (if_neg h) (fun h' => absurd h' h) (fun _ => rfl)
end
end
section
open Go.RowKit
namespace ae
theorem Bc {s : Str} (h0 : s ≠ []) (ha : s.all aY = true) (hl : s.length <= 1000) : jM s = 0 /\ fA s = ⟨false, ax s, 1⟩ := by
 have hc : aO s = (s, false) := by
  unfold aO
  rw [if_neg]
  intro h
  cases s with
  | nil => exact h0 rfl
  | cons c r =>
    simp only [List.all_cons, Bool.and_eq_true] at ha
    have : c = 45 := by simpa using h
    subst this
    simp [aY] at ha
 obtain ⟨h1, h2⟩ := jy ha
 constructor
 ·unfold jM
  rw [if_neg (by omega), if_neg]
  unfold gY fD
  rw [hc]
  simp only [h1, h2]
  rintro (h | h | h)
  ·cases h
  ·exact h0 h
  ·cases h
 ·unfold fA gY iE fD
  rw [hc]
  simp only [h1, h2]
  simp [x8, BQ, lK, aG]
theorem jl {x : Num} (h1 : nd 10 x.n <= 300) (h2 : nd 10 x.d <= 300) (hd : 0 < x.d) : ay x = 0 := by
 have := (Dn (x := ⟨false, x.n, x.d⟩) rfl hd h1 h2).1
 exact this
theorem F5 {s : Str} {k : Nat} (ha : s.all aY = true) (hl : s.length <= k) : nd 10 (ax s) <= k :=
 dX (by omega) (zl (jW s ha) (Nat.pow_le_pow_right (by omega) hl))
theorem sV {n : Nat} (h : nd 10 n <= 300) : ak ⟨false, n, 1⟩ = (Lib.decDigits n, [49]) := by
 obtain ⟨k1, k2⟩ := read_whole h
 rcases Nat.eq_zero_or_pos n with rfl | h0
 ·unfold ak
  rw [if_pos rfl, Lib.decDigits_one (by omega)]; rfl
 ·unfold ak
  have hn : ¬ (⟨false, n, 1⟩ : Num).n = 0 := by show ¬ n = 0; omega
  have he := jl (x := ⟨false, n, 1⟩) h (by show nd 10 1 <= 300; rw [gq (by omega)]; omega) Nat.one_pos
  have ho : ¬ lg ⟨false, n, 1⟩ := fun h => by
   unfold ay at he
   rw [if_neg hn, if_pos h] at he; cases he
  rw [if_neg hn, if_neg ho]
  have e1 : gI ⟨false, n, 1⟩ = n := by unfold gI; simp
  have e2 : iq ⟨false, n, 1⟩ = 1 := by unfold iq; simp
  have e3 : Lib.decDigits 1 = [49] := by rw [Lib.decDigits_one (by omega)]; rfl
  rw [e1, e2, e3]; rfl
theorem nI {x : Num} (hm : x.m = false) (hd : 0 < x.d) (hE : ay x = 0) : bQ (ak x) = 0 /\ (az (ak x)).m = false /\ GU (az (ak x)) x := by
 obtain ⟨h1, h2, h3⟩ := qM hd hE
 refine ⟨h1, ?_, h2⟩
 cases h : (az (ak x)).m with
 | false => rfl
 | true => have := h2.sign (h3 h); rw [h, hm] at this; cases this
theorem Qn {x y : Num} (hx : x.m = false) (hy : y.m = false) (dx : 0 < x.d) (dy : 0 < y.d) (ex : ay x = 0) (ey : ay y = 0) :
  oQ (ak x) (ak y) (fP (az (ak x)) (az (ak y))) 0 = ak ⟨false, x.n * y.d + y.n * x.d, x.d * y.d⟩ /\ qR (ak x) (ak y) (fP (az (ak x)) (az (ak y))) 0 = ay ⟨false, x.n * y.d + y.n * x.d, x.d * y.d⟩ := by
 obtain ⟨a1, a2, a3⟩ := nI hx dx ex
 obtain ⟨b1, b2, b3⟩ := nI hy dy ey
 have hb : jF (ak x) (ak y) = 0 := by unfold jF; rw [if_pos a1]; exact b1
 unfold oQ qR
 rw [if_pos hb, if_pos rfl, if_pos hb, if_pos rfl]
 generalize az (ak x) = u at *
 generalize az (ak y) = v at *
 refine qN ⟨?_, Nat.mul_pos dx dy, ?_, ?_⟩
 ·unfold fP; rw [if_pos (by rw [a2, b2])]; exact Nat.mul_pos a3.dx b3.dx
 ·unfold fP; rw [if_pos (by rw [a2, b2])]
  dsimp only
  have c1 := a3.cross
  have c2 := b3.cross
  rw [Nat.add_mul, Nat.add_mul]
  have e1 : u.n * v.d * (x.d * y.d) = x.n * y.d * (u.d * v.d) := by
   rw [Nat.mul_mul_mul_comm, c1, Nat.mul_comm v.d, Nat.mul_mul_mul_comm]
  have e2 : v.n * u.d * (x.d * y.d) = y.n * x.d * (u.d * v.d) := by
   rw [Nat.mul_comm x.d y.d, Nat.mul_mul_mul_comm, c2, Nat.mul_comm u.d x.d, Nat.mul_mul_mul_comm, Nat.mul_comm v.d u.d]
  rw [e1, e2]
 ·intro _
  unfold fP; rw [if_pos (by rw [a2, b2])]; exact a2
theorem QY {x y : Num} (hx : x.m = false) (hy : y.m = false) (dx : 0 < x.d) (dy : 0 < y.d) (ex : ay x = 0) (ey : ay y = 0) (h0 : y.n ≠ 0) :
  oQ (ak x) (ak y) (divN (az (ak x)) (az (ak y))) (qx (az (ak y))) = ak ⟨false, x.n * y.d, x.d * y.n⟩ /\ qR (ak x) (ak y) (divN (az (ak x)) (az (ak y))) (qx (az (ak y))) = ay ⟨false, x.n * y.d, x.d * y.n⟩ := by
 obtain ⟨a1, a2, a3⟩ := nI hx dx ex
 obtain ⟨b1, b2, b3⟩ := nI hy dy ey
 have hb : jF (ak x) (ak y) = 0 := by unfold jF; rw [if_pos a1]; exact b1
 generalize hu : az (ak x) = u at *
 generalize hv : az (ak y) = v at *
 have hv0 : v.n ≠ 0 := fun e => h0 (b3.zero.1 e)
 have hz : qx v = 0 := if_neg hv0
 have hdv : divN u v = ⟨false, u.n * v.d, u.d * v.n⟩ := by
  unfold divN; rw [if_neg hv0]; unfold mulN Xo; rw [a2, b2]; rfl
 unfold oQ qR
 rw [hz, if_pos hb, if_pos rfl, if_pos hb, if_pos rfl, hdv]
 refine qN ⟨Nat.mul_pos a3.dx (Nat.pos_of_ne_zero hv0), Nat.mul_pos dx (Nat.pos_of_ne_zero h0), ?_, fun _ => rfl⟩
 dsimp only
 have c1 := a3.cross
 have c2 := b3.cross
 rw [Nat.mul_mul_mul_comm, c1, Nat.mul_comm v.d, <- c2, Nat.mul_comm v.n, Nat.mul_mul_mul_comm]
theorem Yu {x y : Num} (hx : x.m = false) (hy : y.m = false) (dx : 0 < x.d) (dy : 0 < y.d) (ex : ay x = 0) (ey : ay y = 0) (h0 : y.n = 0) :
  qR (ak x) (ak y) (divN (az (ak x)) (az (ak y))) (qx (az (ak y))) = 1 := by
 obtain ⟨a1, a2, a3⟩ := nI hx dx ex
 obtain ⟨b1, b2, b3⟩ := nI hy dy ey
 have hb : jF (ak x) (ak y) = 0 := by unfold jF; rw [if_pos a1]; exact b1
 have hz : qx (az (ak y)) = 1 := if_pos (b3.zero.2 h0)
 unfold qR
 rw [hz, if_pos hb, if_neg (by omega)]
theorem Y5 {x : Num} (hx : x.m = false) (dx : 0 < x.d) (ex : ay x = 0) : Si (ak x) (OX (az (ak x))) = ak ⟨true, x.n, x.d⟩ := by
 obtain ⟨a1, a2, a3⟩ := nI hx dx ex
 unfold Si
 rw [if_pos a1]
 have h : GU (OX (az (ak x))) ⟨true, x.n, x.d⟩ := ⟨a3.dx, dx, a3.cross, fun _ => by unfold OX; rw [a2]; rfl⟩
 exact (qN h).1
end ae
end
section
open Go.RowKit
open Sym
namespace af
open ae
theorem IG (c : UInt8) : ∀ s : Str, Lib.indexByte s c = if c ∈ s then ((s.takeWhile (· != c)).length : Int) else -1
 | [] => rfl
 | x :: s => by
   unfold Lib.indexByte
   by_cases h : x = c
   ·subst h
    rw [if_pos (by simp), if_pos (by simp), List.takeWhile_cons_of_neg (by simp)]; rfl
   ·rw [if_neg (by simpa using h), IG c s]
    by_cases hc : c ∈ s
    ·rw [if_pos hc, if_neg (by simp), if_pos (List.mem_cons_of_mem _ hc), List.takeWhile_cons_of_pos (by simp [h]), List.length_cons]; rfl
    ·rw [if_neg hc, if_pos (by simp), if_neg (by simp only [List.mem_cons, not_or]; exact ⟨fun e => h e.symm, hc⟩)]
theorem Ny (c : UInt8) (s : Str) : Lib.index s [c] = if c ∈ s then ((s.takeWhile (· != c)).length : Int) else -1 := by
 rw [Lib.index_one, IG]
theorem xC {c : UInt8} {s : Str} (h : c ∈ s) : s.take (s.takeWhile (· != c)).length = s.takeWhile (· != c) /\ s.drop ((s.takeWhile (· != c)).length + 1) = (s.dropWhile (· != c)).tail := by
 have e := qm h
 generalize s.takeWhile (· != c) = a at *
 generalize (s.dropWhile (· != c)).tail = b at *
 subst e
 constructor
 ·simp
 ·rw [show a ++ c :: b = (a ++ [c]) ++ b by simp, List.drop_left' (by simp)]
theorem Vb (c : UInt8) (s : Str) : Lib.cut s [c] = bK c s := by
 unfold Lib.cut bK
 rw [Ny]
 by_cases h : c ∈ s
 ·obtain ⟨h1, h2⟩ := xC h
  rw [if_pos h, if_pos (by omega), if_pos h, Int.toNat_natCast, h1]
  show (_, s.drop (_ + 1), _) = _
  rw [h2]
 ·rw [if_neg h, if_neg (by omega), if_neg h]
theorem ru (c : UInt8) (s : Str) : (bK c s).1.length <= s.length /\ (bK c s).2.1.length <= s.length := by
 unfold bK
 split
 ·rename_i h
  have e := congrArg List.length (qm h)
  simp only [List.length_append, List.length_cons] at e
  dsimp only
  exact ⟨by omega, by omega⟩
 ·exact ⟨Nat.le_refl _, by simp⟩
theorem Eb (c : UInt8) : ∀ (n : Nat) (s : Str), s.length <= n -> Lib.splitK [c] 0 (Lib.count s [c]) s = aN c s
 | n, s, hn => by
   have hi := Ny c s
   by_cases h : c ∈ s
   ·rw [if_pos h] at hi
    obtain ⟨h1, h2⟩ := xC h
    rw [Lib.count_hit (by simp) hi, kL h, Nat.add_comm 1, Lib.splitK, if_neg (by rw [hi]; simp), hi, Int.toNat_natCast, Nat.add_zero, h1]
    show _ :: Lib.splitK [c] 0 (Lib.count (s.drop (_ + 1)) [c]) (s.drop (_ + 1)) = _
    rw [h2]
    have hl : (s.dropWhile (· != c)).tail.length < s.length := by
     rw [<- h2, List.length_drop]
     have : 0 < s.length := List.length_pos_of_mem h
     omega
    cases n with
    | zero => omega
    | succ n =>
      rw [Eb c n _ (by omega)]
      unfold bK
      rw [if_pos h]
   ·rw [if_neg h] at hi
    rw [Lib.count_miss hi, fC h]; rfl
end af
theorem xg (c : UInt8) (s : List UInt8) (w : World) (hw : XV w) (hs : s.length <= 1000000) : QC 113 #[.string (ah s), .string (ah [c])] w (.tuple #[.string (ah (af.bK c s).1), .string (ah (af.bK c s).2.1), .bool (af.bK c s).2.2]) := by
 obtain ⟨m, hm⟩ := hw.len
 refine (Tryz.strings_Cut (ah s) (ah [c]) m w (by rw [bW]; omega) hm).mono ?_
 rintro e w' ⟨h, n, rfl⟩
 have hb := Below.refl w.heap.size w
 refine ⟨?_, ⟨hb.os, hb.tape, hb.output, hb.size, hb.block⟩⟩
 rw [h, show (ah s).data.toList = s from rfl, show (ah [c]).data.toList = [c] from rfl, af.Vb]
 rfl
section
attribute [local irreducible] Calls Sym.bM ae.nd ae.bu ae.upd ae.ak ae.ay af.bK
theorem af.xh {s : List UInt8} (h : af.wh s = true) : s ≠ [] /\ s.all ae.aY = true /\ s.length <= 100 := by
 unfold af.wh at h
 simp only [Bool.and_eq_true, Bool.not_eq_true', List.isEmpty_eq_false_iff, decide_eq_true_eq] at h
 exact ⟨h.1.1, h.1.2, h.2⟩
def af.Ko (s : List UInt8) : ae.Fr := if af.wh s = true then (Lib.decDigits (ae.ax s), [49]) else ([], [])
theorem sU (s : List UInt8) (w : World) (hw : XV w) (hs : s.length <= 1000000) : QC 114 #[.string (ah s)] w (.tuple #[iI (af.Ko s), .bool (af.wh s)]) := by
 have D := fun (w' : World) => oJ s w' (by omega)
 unfold af.Ko
 cases hwh : af.wh s with
 | true =>
   obtain ⟨h0, ha, hl⟩ := af.xh hwh
   obtain ⟨r1, r2⟩ := ae.jy ha
   obtain ⟨p1, p2⟩ := ae.Bc h0 ha (by omega)
   have hn : ae.nd 10 (ae.ax s) <= 300 := Nat.le_trans (ae.F5 ha hl) (by omega)
   have P := fun (w' : World) (h : BW w w') => x9 s w' (hw.below h).xw (hw.below h).pos (by omega)
   simp only [p1, p2, if_true, ae.sV hn, ae.jl (x := ⟨false, ae.ax s, 1⟩) hn (by show ae.nd 10 1 <= 300; rw [ae.gq (by omega)]; omega) Nat.one_pos] at P
   rw [r1, r2] at D
   rw [if_pos rfl]
   generalize Lib.decDigits (ae.ax s) = F at *
   clear p1 p2 r1 r2 hn ha
   refine yE func114 rfl results114 ntmps114 [] [] [.str s] w ?_
   repeat' (first | exact ⟨⟩ | refine yG ?_ ?_ | refine yA (.bg [.str s, .str []]) (fun _ => D) ?_ | refine yB (.bg [.agg [.str F, .str [49]], .int .i64 0]) (fun _ => P) ?_ | intro _)
   all_goals first | (exfalso; omega) | (exfalso; contradiction) | rfl
 | false =>
   rw [if_neg Bool.false_ne_true]
   have hb : ae.aW s = [] \/ ae.bf s ≠ [] \/ 100 < (ae.aW s).length := by
    by_cases h2 : ae.bf s = []
    ·have ha := ae.Am h2
     have h1 := (ae.jy ha).1
     rw [h1]
     by_cases h0 : s = []
     ·exact .inl h0
     ·right; right
      unfold af.wh at hwh
      rw [ha] at hwh
      have : s.isEmpty = false := by simpa using h0
      rw [this] at hwh
      simpa using hwh
    ·exact .inr (.inl h2)
   generalize ae.aW s = d at *
   generalize ae.bf s = r at *
   refine yE func114 rfl results114 ntmps114 [] [] [.str s] w ?_
   repeat' (first | exact ⟨⟩ | refine yG ?_ ?_ | refine yA (.bg [.str d, .str r]) (fun _ => D) ?_ | intro _)
   all_goals first | rfl | (exfalso; omega) | (exfalso; rcases hb with h | h | h <;> first | contradiction | omega)
end
end
section
open Go.RowKit
open Sym
theorem bZ {w w' w2 : World} (h : BW w w') (k : BW w' w2) : BW w w2 := h.trans (k.mono h.size)
def Reads (f : FuncId) (s : List UInt8) (V : Option ae.Num) (w : World) : Prop := ∃ F : ae.Fr, (∀ x, V = some x -> F = ae.ak x) /\ (F.1.length <= 301 /\ F.2.length <= 300) /\ ∀ w', BW w w' -> QC f #[.string (ah s)] w' (.tuple #[iI F, .bool V.isSome])
attribute [local irreducible] Calls Sym.bM ae.nd ae.bu ae.upd ae.ak ae.ay af.bK af.wh
theorem af.kV {s : List UInt8} (h : af.wh s = true) : af.Ko s = ae.ak ⟨false, ae.ax s, 1⟩ /\ ae.ay ⟨false, ae.ax s, 1⟩ = 0 /\ ae.ax s < 10 ^ 100 := by
 obtain ⟨h0, ha, hl⟩ := af.xh h
 have hn : ae.nd 10 (ae.ax s) <= 300 := Nat.le_trans (ae.F5 ha hl) (by omega)
 refine ⟨?_, ae.jl (x := ⟨false, ae.ax s, 1⟩) hn (by show ae.nd 10 1 <= 300; rw [ae.gq (by omega)]; omega) Nat.one_pos, zl (ae.jW s ha) (Nat.pow_le_pow_right (by omega) hl)⟩
 unfold af.Ko
 rw [if_pos h, ae.sV hn]
theorem af.GI (s : List UInt8) : (af.Ko s).1.length <= 301 /\ (af.Ko s).2.length <= 300 := by
 by_cases h : af.wh s = true
 ·rw [(af.kV h).1]; exact ae.dI _
 ·unfold af.Ko
  rw [if_neg h]
  exact ⟨by simp, by simp⟩
theorem ae.xX {a b c : Nat} (ha : a < 10 ^ 100) (hb : b < 10 ^ 100) (hc : c < 10 ^ 100) (h0 : c ≠ 0) (m : Bool) : ae.ay ⟨false, b, c⟩ = 0 /\ ae.ay ⟨m, a * c + b, c⟩ = 0 := by
 have h1 : a * c + b < 10 ^ 201 := by
  have e : (10 : Nat) ^ 201 = 10 ^ 100 * 10 ^ 100 * 10 := by rw [<- Nat.pow_add, <- Nat.pow_succ]
  have h2 : a * c <= 10 ^ 100 * 10 ^ 100 := Nat.mul_le_mul (by omega) (by omega)
  have h3 : (10 : Nat) ^ 100 <= 10 ^ 100 * 10 ^ 100 := Nat.le_mul_of_pos_right _ (Nat.pow_pos (by omega))
  rw [e]
  generalize (10 : Nat) ^ 100 = k at *
  generalize k * k = q at *
  omega
 have n1 := ae.dX (b := 10) (by omega) h1
 have n2 := ae.dX (b := 10) (by omega) hb
 have n3 := ae.dX (b := 10) (by omega) hc
 exact ⟨ae.jl (x := ⟨false, b, c⟩) (by show ae.nd 10 b <= 300; omega) (by show ae.nd 10 c <= 300; omega) (by show 0 < c; omega), ae.jl (x := ⟨m, a * c + b, c⟩) (by show ae.nd 10 (a * c + b) <= 300; omega) (by show ae.nd 10 c <= 300; omega) (by show 0 < c; omega)⟩
section
variable (s t u v p q : List UInt8) (m ok fine g1 g2 g3 : Bool) (A1 A2 B1 B2 C1 C2 : List UInt8) (w : World)
 (hM : ∀ w' : World, QC 54 #[.string (ah s), .string (ah [45])] w' (.tuple #[.string (ah t), .bool m]))
 (hC : ∀ w', BW w w' -> QC 113 #[.string (ah t), .string (ah [32])] w' (.tuple #[.string (ah u), .string (ah v), .bool ok]))
 (hD : ∀ w', BW w w' -> QC 113 #[.string (ah v), .string (ah [47])] w' (.tuple #[.string (ah p), .string (ah q), .bool fine]))
 (hA : ∀ w', BW w w' -> QC 114 #[.string (ah u)] w' (.tuple #[iI (A1, A2), .bool g1]))
 (hB : ∀ w', BW w w' -> QC 114 #[.string (ah p)] w' (.tuple #[iI (B1, B2), .bool g2]))
 (hE : ∀ w', BW w w' -> QC 114 #[.string (ah q)] w' (.tuple #[iI (C1, C2), .bool g3]))
include hM hC hD hA hB hE
theorem RP (h : ok = false \/ fine = false \/ g1 = false \/ g2 = false \/ g3 = false) : QC 57 #[.string (ah s)] w (.tuple #[iI ([], []), .bool false]) := by
 refine yE func57 rfl results57 ntmps57 [] [] [.str s] w ?_
 repeat' (first | exact ⟨⟩ | refine yG ?_ ?_ | refine yA (.bg [.str t, .bool m]) (fun _ => hM) ?_ | refine yB (.bg [.str u, .str v, .bool ok]) (fun _ => hC) ?_ | refine yB (.bg [.str p, .str q, .bool fine]) (fun _ => hD) ?_ | refine yB (.bg [.agg [.str A1, .str A2], .bool g1]) (fun _ => hA) ?_ | refine yB (.bg [.agg [.str B1, .str B2], .bool g2]) (fun _ => hB) ?_ | refine yB (.bg [.agg [.str C1, .str C2], .bool g3]) (fun _ => hE) ?_ | intro _)
 all_goals first | rfl | (exfalso; clear hM hC hD hA hB hE; simp_all; done)
variable (Q1 Q2 S1 S2 N1 N2 : List UInt8) (e1 e2 e3 : Int)
 (hV : ∀ w', BW w w' -> Calls Tryz.prog 112 #[iI (B1, B2), iI (C1, C2)] w' (fQ (Q1, Q2) e1 w'))
 (hS : ∀ w', BW w w' -> Calls Tryz.prog 115 #[iI (A1, A2), iI (Q1, Q2)] w' (fQ (S1, S2) e2 w'))
include hV hS
theorem OU (h : ok = true /\ fine = true /\ g1 = true /\ g2 = true /\ g3 = true) (he : e1 ≠ 0) : QC 57 #[.string (ah s)] w (.tuple #[iI ([], []), .bool false]) := by
 obtain ⟨rfl, rfl, rfl, rfl, rfl⟩ := h
 refine yE func57 rfl results57 ntmps57 [] [] [.str s] w ?_
 repeat' (first | exact ⟨⟩ | refine yG ?_ ?_ | refine yA (.bg [.str t, .bool m]) (fun _ => hM) ?_ | refine yB (.bg [.str u, .str v, .lit true]) (fun _ => hC) ?_ | refine yB (.bg [.str p, .str q, .lit true]) (fun _ => hD) ?_ | refine yB (.bg [.agg [.str A1, .str A2], .lit true]) (fun _ => hA) ?_ | refine yB (.bg [.agg [.str B1, .str B2], .lit true]) (fun _ => hB) ?_ | refine yB (.bg [.agg [.str C1, .str C2], .lit true]) (fun _ => hE) ?_ | refine yB (.bg [.agg [.str Q1, .str Q2], .int .i64 e1]) (fun _ => hV) ?_ | refine yB (.bg [.agg [.str S1, .str S2], .int .i64 e2]) (fun _ => hS) ?_ | intro _)
 all_goals first | rfl | (exfalso; omega)
variable (hN : ∀ w', BW w w' -> Calls Tryz.prog 116 #[iI (S1, S2)] w' (fQ (N1, N2) e3 w'))
include hN
theorem OV (h : ok = true /\ fine = true /\ g1 = true /\ g2 = true /\ g3 = true) (he : e1 = 0 /\ e2 = 0) : QC 57 #[.string (ah s)] w (.tuple #[iI (if m = true then (N1, N2) else (S1, S2)), .bool true]) := by
 obtain ⟨rfl, rfl, rfl, rfl, rfl⟩ := h
 obtain ⟨rfl, rfl⟩ := he
 refine yE func57 rfl results57 ntmps57 [] [] [.str s] w ?_
 repeat' (first | exact ⟨⟩ | refine yG ?_ ?_ | refine yA (.bg [.str t, .bool m]) (fun _ => hM) ?_ | refine yB (.bg [.str u, .str v, .lit true]) (fun _ => hC) ?_ | refine yB (.bg [.str p, .str q, .lit true]) (fun _ => hD) ?_ | refine yB (.bg [.agg [.str A1, .str A2], .lit true]) (fun _ => hA) ?_ | refine yB (.bg [.agg [.str B1, .str B2], .lit true]) (fun _ => hB) ?_ | refine yB (.bg [.agg [.str C1, .str C2], .lit true]) (fun _ => hE) ?_ | refine yB (.bg [.agg [.str Q1, .str Q2], .int .i64 0]) (fun _ => hV) ?_ | refine yB (.bg [.agg [.str S1, .str S2], .int .i64 0]) (fun _ => hS) ?_ | refine yB (.bg [.agg [.str N1, .str N2], .int .i64 e3]) (fun _ => hN) ?_ | intro _)
 all_goals first | (exfalso; omega) | (rw [if_pos (by assumption : m = true)]; rfl) | (rw [if_neg (by simp_all)]; rfl)
end
theorem MG (s : List UInt8) (w : World) (hw : XV w) (hl : s.length <= 40000) : Reads 57 s (af.uy s) w := by
 have hcl : (ae.aO s).1.length <= s.length := by
  unfold ae.aO
  split
  ·simp
  ·exact Nat.le_refl _
 have hM := fun (w' : World) => mX s w'
 have hC := fun (w' : World) (h : BW w w') => xg 32 (ae.aO s).1 w' (hw.below h) (by omega)
 have l1 := af.ru 32 (ae.aO s).1
 have hD := fun (w' : World) (h : BW w w') => xg 47 (af.bK 32 (ae.aO s).1).2.1 w' (hw.below h) (by omega)
 have l2 := af.ru 47 (af.bK 32 (ae.aO s).1).2.1
 have hA := fun (w' : World) (h : BW w w') => sU (af.bK 32 (ae.aO s).1).1 w' (hw.below h) (by omega)
 have hB := fun (w' : World) (h : BW w w') => sU (af.bK 47 (af.bK 32 (ae.aO s).1).2.1).1 w' (hw.below h) (by omega)
 have hE := fun (w' : World) (h : BW w w') => sU (af.bK 47 (af.bK 32 (ae.aO s).1).2.1).2.1 w' (hw.below h) (by omega)
 unfold af.uy af.Dw
 clear l1 l2 hcl
 generalize (ae.aO s).2 = m at *
 generalize (ae.aO s).1 = t at *
 generalize (af.bK 32 t).1 = u at *
 generalize (af.bK 32 t).2.2 = ok at *
 generalize (af.bK 32 t).2.1 = v at *
 generalize (af.bK 47 v).2.2 = fine at *
 generalize (af.bK 47 v).2.1 = q at *
 generalize (af.bK 47 v).1 = p at *
 have lA := af.GI u
 have lB := af.GI p
 have lC := af.GI q
 by_cases hall : (ok = true /\ fine = true) /\ af.wh u = true /\ af.wh p = true /\ af.wh q = true
 ·obtain ⟨hof, h1, h2, h3⟩ := hall
  rw [if_pos hof]
  obtain ⟨a1, a2, a3⟩ := af.kV h1
  obtain ⟨b1, b2, b3⟩ := af.kV h2
  obtain ⟨c1, c2, c3⟩ := af.kV h3
  have hV := fun (w' : World) (h : BW w w') => Ag (af.Ko p) (af.Ko q) w' (hw.below h).xw (hw.below h).pos (by omega) (by omega) (by omega) (by omega)
  by_cases hz : ae.ax q = 0
  ·rw [if_neg (fun h => h.2.2.2 hz)]
   obtain ⟨Q, hQ⟩ : ∃ Q : ae.Fr, Q = ae.oQ (af.Ko p) (af.Ko q) (ae.divN (ae.az (af.Ko p)) (ae.az (af.Ko q))) (ae.qx (ae.az (af.Ko q))) := ⟨_, rfl⟩
   have hz1 := ae.Yu (x := ⟨false, ae.ax p, 1⟩) (y := ⟨false, ae.ax q, 1⟩) rfl rfl Nat.one_pos Nat.one_pos b2 c2 hz
   rw [<- b1, <- c1] at hz1
   rw [<- hQ, hz1] at hV
   have lQ : Q.1.length <= 301 /\ Q.2.length <= 300 := by
    rw [hQ]; unfold ae.oQ
    split
    ·split
     ·exact ae.dI _
     ·exact ⟨by simp, by simp⟩
    ·exact ⟨by simp, by simp⟩
   have hS := fun (w' : World) (h : BW w w') => add_any (af.Ko u) Q w' (hw.below h).xw (hw.below h).pos (by omega) (by omega) (by omega) (by omega)
   refine ⟨([], []), (fun x h => by cases h), ⟨by simp, by simp⟩, fun w' h => ?_⟩
   exact OU s t u v p q m ok fine (af.wh u) (af.wh p) (af.wh q) _ _ _ _ _ _ w' hM (fun w2 h2 => hC w2 (bZ h h2)) (fun w2 h2 => hD w2 (bZ h h2)) (fun w2 h2 => hA w2 (bZ h h2)) (fun w2 h2 => hB w2 (bZ h h2)) (fun w2 h2 => hE w2 (bZ h h2)) _ _ _ _ _ _ (fun w2 h2 => hV w2 (bZ h h2)) (fun w2 h2 => hS w2 (bZ h h2)) ⟨hof.1, hof.2, h1, h2, h3⟩ (by omega)
  ·rw [if_pos ⟨h1, h2, h3, hz⟩]
   obtain ⟨d1, d2⟩ := ae.QY (x := ⟨false, ae.ax p, 1⟩) (y := ⟨false, ae.ax q, 1⟩) rfl rfl Nat.one_pos Nat.one_pos b2 c2 hz
   obtain ⟨s1, s2⟩ := ae.xX a3 b3 c3 hz false
   obtain ⟨-, s3⟩ := ae.xX a3 b3 c3 hz m
   have hq0 : 0 < ae.ax q := Nat.pos_of_ne_zero hz
   obtain ⟨f1, f2⟩ := ae.Qn (x := ⟨false, ae.ax u, 1⟩) (y := ⟨false, ae.ax p, ae.ax q⟩) rfl rfl Nat.one_pos hq0 a2 s1
   have n1 := ae.Y5 (x := ⟨false, ae.ax u * ae.ax q + ae.ax p, ae.ax q⟩) rfl hq0 s2
   dsimp only at d1 d2 f1 f2 n1
   rw [Nat.mul_one, Nat.one_mul] at d1 d2
   rw [Nat.mul_one, Nat.one_mul] at f1 f2
   rw [<- b1, <- c1] at d1 d2
   rw [d1, d2, s1] at hV
   rw [<- a1] at f1 f2
   have lQ := ae.dI ⟨false, ae.ax p, ae.ax q⟩
   have hS := fun (w' : World) (h : BW w w') => add_any (af.Ko u) (ae.ak ⟨false, ae.ax p, ae.ax q⟩) w' (hw.below h).xw (hw.below h).pos (by omega) (by omega) (by omega) (by omega)
   rw [f1, f2, s2] at hS
   have lS := ae.dI ⟨false, ae.ax u * ae.ax q + ae.ax p, ae.ax q⟩
   have hN := fun (w' : World) (h : BW w w') => Vp (ae.ak ⟨false, ae.ax u * ae.ax q + ae.ax p, ae.ax q⟩) w' (hw.below h).xw (hw.below h).pos (by omega) (by omega)
   rw [n1] at hN
   refine ⟨ae.ak ⟨m, ae.ax u * ae.ax q + ae.ax p, ae.ax q⟩, (fun x h => by cases h; rfl), ae.dI _, fun w' h => ?_⟩
   have := OV s t u v p q m ok fine (af.wh u) (af.wh p) (af.wh q) _ _ _ _ _ _ w' hM (fun w2 h2 => hC w2 (bZ h h2)) (fun w2 h2 => hD w2 (bZ h h2)) (fun w2 h2 => hA w2 (bZ h h2)) (fun w2 h2 => hB w2 (bZ h h2)) (fun w2 h2 => hE w2 (bZ h h2)) _ _ _ _ _ _ _ _ _ (fun w2 h2 => hV w2 (bZ h h2)) (fun w2 h2 => hS w2 (bZ h h2)) (fun w2 h2 => hN w2 (bZ h h2)) ⟨hof.1, hof.2, h1, h2, h3⟩ ⟨rfl, rfl⟩
   cases m with
   | true => exact this
   | false => exact this
 ·refine ⟨([], []), ?_, ⟨by simp, by simp⟩, fun w' h => ?_⟩
  ·intro x hx
   split at hx
   ·rename_i hof
    rw [if_neg (fun h => hall ⟨hof, h.1, h.2.1, h.2.2.1⟩)] at hx
    cases hx
   ·cases hx
  ·have hn : (if ok = true /\ fine = true then (if af.wh u = true /\ af.wh p = true /\ af.wh q = true /\ ae.ax q ≠ 0 then some (⟨m, ae.ax u * ae.ax q + ae.ax p, ae.ax q⟩ : ae.Num) else none) else none) = none := by
    split
    ·rename_i hof
     rw [if_neg (fun h => hall ⟨hof, h.1, h.2.1, h.2.2.1⟩)]
    ·rfl
   rw [hn]
   exact RP s t u v p q m ok fine (af.wh u) (af.wh p) (af.wh q) _ _ _ _ _ _ w' hM (fun w2 h2 => hC w2 (bZ h h2)) (fun w2 h2 => hD w2 (bZ h h2)) (fun w2 h2 => hA w2 (bZ h h2)) (fun w2 h2 => hB w2 (bZ h h2)) (fun w2 h2 => hE w2 (bZ h h2)) (by
    revert hall
    cases ok <;> cases fine <;> cases af.wh u <;> cases af.wh p <;> cases af.wh q <;> simp)
end
end Go.Proofs.YtdkhkfdenlabaaaGreatDoor
namespace Go.Proofs
end Go.Proofs
