/- Values, the reference: errors of arrays; -/
import Derived.Test.YtdkhkfdenlabaaaGreatDoorVGG
import Derived.Test.YtdkhkfdenlabaaaGreatDoorVGS
import Derived.Test.YtdkhkfdenlabaaaGreatDoorVGQ
import Derived.Test.YtdkhkfdenlabaaaGreatDoorVVaW10
import Derived.Test.YtdkhkfdenlabaaaGreatDoorVGO
import Derived.Test.YtdkhkfdenlabaaaGreatDoorVGM
import Derived.Test.YtdkhkfdenlabaaaGreatDoorVGN
import Derived.Test.YtdkhkfdenlabaaaGreatDoorVGE
set_option linter.unusedSimpArgs false
set_option linter.unusedVariables false
set_option maxRecDepth 100000
set_option maxHeartbeats 64000000
namespace Go.Proofs.YtdkhkfdenlabaaaGreatDoor
open Go.Proofs.Tryz
section
open Go.RowKit
open Sym
attribute [local irreducible] Calls Sym.bM ae.nd ae.bu ae.upd ae.ak ae.ay
theorem PR (t : af.VT) (a : Option Addr) (cap : Nat) (w : World) (hw : XV w) (hr : XR w) (ht : oL w t a cap) (h5 : t.kind = 5) (FZ : Bool) (Xd : FZ = decide (t.num.1 = [] /\ t.num.2 = [])) (V : Int) (hB : af.qP t -> V = 4) (hO : ¬ af.qP t -> V = af.Kw t) :
  QC 14 #[jk t a cap] w (.int .i64 V) := by
 cases ht with
 | mk t a cap ps hf hc hn hi hs =>
 have hE : af.Kw t = if t.rows < 1 \/ 100000 < t.rows \/ t.cols < 1 \/ 100000 < t.cols then 2 else if 100000 < t.rows * t.cols then 3 else if (t.items.length : Int) ≠ t.rows * t.cols then 4 else af.lZ t.items := rfl
 rw [hE] at hO
 have C := fun (i : Nat) (x : af.VT) (hx : t.items[i]? = some x) (h5 : x.kind ≠ 5) (w' : World) (h : BW w w') => Jy x (ps i).1 (ps i).2 w' (hw.below h) (hr.below h) (hi i x hx).fit h5
 clear hf hn hi hE
 obtain ⟨k, ⟨n1, n2⟩, tx, on, cd, R, L, its⟩ := t
 unfold jk at *
 unfold af.qP at hB hO
 dsimp only at *
 subst h5
 have YA : FZ = true ↔ (n1 = [] /\ n2 = []) := by rw [Xd, decide_eq_true_eq]
 have hagg := Ii n1 n2 FZ Xd
 clear Xd hw hr
 have hmul : ¬ (R < 1 \/ 100000 < R \/ L < 1 \/ 100000 < L) -> 1 <= R * L /\ R * L <= 10000000000 := fun h => by
  have h1 : 1 <= R := by omega
  have h2 : 1 <= L := by omega
  have h3 : R * L <= 100000 * 100000 := Int.mul_le_mul (by omega) (by omega) (by omega) (by omega)
  have h4 : 1 * 1 <= R * L := Int.mul_le_mul h1 h2 (by omega) (by omega)
  omega
 generalize hn : its.length = n at *
 by_cases hz : (5 : Int) ≠ 1 /\ ¬ (n1 = [] /\ n2 = []) \/ (5 : Int) ≠ 2 /\ tx ≠ [] \/ (5 : Int) ≠ 3 /\ on = true \/ (5 : Int) ≠ 4 /\ cd ≠ 0 \/ (5 : Int) ≠ 5 /\ (R ≠ 0 \/ L ≠ 0 \/ n ≠ 0)
 ·rw [hB hz]
  clear hB hO hmul C hs
  refine yE func14 rfl results14 ntmps14 [] [] [.agg [.int .i64 5, .str n1, .str n2, .str tx, .bool on, .int .i64 cd, .int .i64 R, .int .i64 L, .any (.slice a n cap)]] w ?_
  repeat' (first | exact ⟨⟩ | refine yG ?_ ?_ | refine yK (.bool (decide (5 = 1) || FZ)) (fun β w hm => dB 1 5 (FZ) (β 0) w (cZ (i := 0) (v := .int .i64 5) hm rfl rfl)) ?_ | refine yK (.bool (decide (5 = 2) || decide (tx = []))) (fun β w hm => dB 2 5 (decide (tx = [])) (β 0) w (cZ (i := 0) (v := .int .i64 5) hm rfl rfl)) ?_ | refine yK (.bool (decide (5 = 3) || !on)) (fun β w hm => dB 3 5 (!on) (β 0) w (cZ (i := 0) (v := .int .i64 5) hm rfl rfl)) ?_ | refine yK (.bool (decide (5 = 4) || decide (cd = 0))) (fun β w hm => dB 4 5 (decide (cd = 0)) (β 0) w (cZ (i := 0) (v := .int .i64 5) hm rfl rfl)) ?_ | refine yK (.bool (decide (5 = 5) || false)) (fun β w hm => dB 5 5 (false) (β 0) w (cZ (i := 0) (v := .int .i64 5) hm rfl rfl)) ?_ | refine yK (.bool (decide (5 = 5) || decide ((n : Int) = 0))) (fun β w hm => dB 5 5 (decide ((n : Int) = 0)) (β 0) w (cZ (i := 0) (v := .int .i64 5) hm rfl rfl)) ?_ | refine yO (aJ underlying26) ?_ | refine yO (GN) ?_ | ((with_reducible show ∃ _, _); first | (refine ⟨FZ, hagg, ?_⟩)) | intro _)
  all_goals clear hagg
  all_goals first | rfl | (exfalso; simp_all; done) | (exfalso; simp_all; omega)
 have hO := hO hz
 clear hB
 by_cases hb : R < 1 \/ 100000 < R \/ L < 1 \/ 100000 < L
 ·clear hmul C hs
  rw [if_pos hb] at hO
  rw [hO]
  clear hO
  refine yE func14 rfl results14 ntmps14 [] [] [.agg [.int .i64 5, .str n1, .str n2, .str tx, .bool on, .int .i64 cd, .int .i64 R, .int .i64 L, .any (.slice a n cap)]] w ?_
  repeat' (first | exact ⟨⟩ | refine yG ?_ ?_ | refine yK (.bool (decide (5 = 1) || FZ)) (fun β w hm => dB 1 5 (FZ) (β 0) w (cZ (i := 0) (v := .int .i64 5) hm rfl rfl)) ?_ | refine yK (.bool (decide (5 = 2) || decide (tx = []))) (fun β w hm => dB 2 5 (decide (tx = [])) (β 0) w (cZ (i := 0) (v := .int .i64 5) hm rfl rfl)) ?_ | refine yK (.bool (decide (5 = 3) || !on)) (fun β w hm => dB 3 5 (!on) (β 0) w (cZ (i := 0) (v := .int .i64 5) hm rfl rfl)) ?_ | refine yK (.bool (decide (5 = 4) || decide (cd = 0))) (fun β w hm => dB 4 5 (decide (cd = 0)) (β 0) w (cZ (i := 0) (v := .int .i64 5) hm rfl rfl)) ?_ | refine yK (.bool (decide (5 = 5) || false)) (fun β w hm => dB 5 5 (false) (β 0) w (cZ (i := 0) (v := .int .i64 5) hm rfl rfl)) ?_ | refine yK (.bool (decide (5 = 5) || decide ((n : Int) = 0))) (fun β w hm => dB 5 5 (decide ((n : Int) = 0)) (β 0) w (cZ (i := 0) (v := .int .i64 5) hm rfl rfl)) ?_ | refine yO (aJ underlying26) ?_ | refine yO (GN) ?_ | ((with_reducible show ∃ _, _); first | (refine ⟨FZ, hagg, ?_⟩)) | intro _)
  all_goals clear hagg
  all_goals first | rfl | (exfalso; omega) | (exfalso; simp_all; done) | (exfalso; simp_all; omega)
 ·have hm := hmul hb
  clear hmul
  rw [if_neg hb] at hO
  refine yE func14 rfl results14 ntmps14 [] [] [.agg [.int .i64 5, .str n1, .str n2, .str tx, .bool on, .int .i64 cd, .int .i64 R, .int .i64 L, .any (.slice a n cap)]] w ?_
  repeat' (first | exact ⟨⟩ | refine yG ?_ ?_ | refine yK (.bool (decide (5 = 1) || FZ)) (fun β w hm => dB 1 5 (FZ) (β 0) w (cZ (i := 0) (v := .int .i64 5) hm rfl rfl)) ?_ | refine yK (.bool (decide (5 = 2) || decide (tx = []))) (fun β w hm => dB 2 5 (decide (tx = [])) (β 0) w (cZ (i := 0) (v := .int .i64 5) hm rfl rfl)) ?_ | refine yK (.bool (decide (5 = 3) || !on)) (fun β w hm => dB 3 5 (!on) (β 0) w (cZ (i := 0) (v := .int .i64 5) hm rfl rfl)) ?_ | refine yK (.bool (decide (5 = 4) || decide (cd = 0))) (fun β w hm => dB 4 5 (decide (cd = 0)) (β 0) w (cZ (i := 0) (v := .int .i64 5) hm rfl rfl)) ?_ | refine yK (.bool (decide (5 = 5) || false)) (fun β w hm => dB 5 5 (false) (β 0) w (cZ (i := 0) (v := .int .i64 5) hm rfl rfl)) ?_ | refine yK (.bool (decide (5 = 5) || decide ((n : Int) = 0))) (fun β w hm => dB 5 5 (decide ((n : Int) = 0)) (β 0) w (cZ (i := 0) (v := .int .i64 5) hm rfl rfl)) ?_ | refine yO (aJ underlying26) ?_ | refine yO (GN) ?_ | ((with_reducible show ∃ _, _); first | (refine ⟨FZ, hagg, ?_⟩)) | intro _)
  all_goals clear hagg
  all_goals first | (exfalso; omega) | (rw [hO, if_pos (by assumption)]; rfl) | (rw [hO, if_neg (by assumption), if_pos (fun h => (by assumption : ¬ R * L = (n : Int)) h.symm)]; rfl) | (exfalso; clear hs C hO; simp_all; done) | skip
  all_goals rw [if_neg (by omega), if_neg (by omega)] at hO
  all_goals rw [hO]
  all_goals clear hO
  refine yZ (T := {i : Nat // i <= n /\ af.lZ (its.take i) = 0}) (fun t => ⟨[(131, .any (.slice a n cap)), (132, .int .i64 (n : Nat)), (133, .int .i64 (t.1 : Nat))], [], 0, 146⟩) (fun t => n - t.1) ⟨0, Nat.zero_le _, by simp [af.lZ]⟩ [] [] (fun t I hI => ?_)
  obtain ⟨i, hi, hzz⟩ := t
  dsimp only
  by_cases hlt : i < n
  ·obtain ⟨x, hx⟩ : ∃ x, its[i]? = some x := ⟨its[i]'(by omega), List.getElem?_eq_getElem (by omega)⟩
   obtain ⟨ad, rfl, hblk, hcell⟩ := hs i x hx
   have hat := NG hzz hx
   have hnx := Ea hzz hx
   have Cx := C i x hx
   have Xi : af.OH x = if x.kind = 5 then 8 else af.dY x := rfl
   have hld : ∀ w', BW w w' -> ∀ (β : Nat -> Nat) (j : Nat) (v : Value), (SV.aF β [.int .i64 x.kind, .str x.num.1, .str x.num.2, .str x.text, .bool x.on, .int .i64 x.code, .int .i64 x.rows, .int .i64 x.cols, .any (.slice (ps i).1 x.items.length (ps i).2)])[j]? = some v -> w'.cell? ((ad.add (i * 9)).add j) = some v := fun w' hb β j v hv => by
    rw [Go.Deep.add_add]
    exact cell_below (hcell j v hv) hb
   unfold jk at Cx
   clear hs C hcell hx hb hm hz YA
   generalize (ps i).1 = p1 at *
   generalize (ps i).2 = p2 at *
   generalize af.dY x = XE at *
   generalize af.OH x = IE at *
   obtain ⟨xk, ⟨m1, m2⟩, xt, xo, xc, xr, xl, xi⟩ := x
   dsimp only at *
   repeat' (first | exact ⟨⟩ | refine yG ?_ ?_ | refine yK (.int .i64 XE) (fun β w hm => Cx (by assumption) w hm.below) ?_ | ((with_reducible show ∃ _ : SV, _); first | refine yO (GR (j := i) rfl underlying26 (fun w => sizeOf28 w) (by omega)) ?_ | (refine ⟨_, ?ok, jL (vs := [.int .i64 xk, .str m1, .str m2, .str xt, .bool xo, .int .i64 xc, .int .i64 xr, .int .i64 xl, .any (.slice p1 xi.length p2)]) (fun w => isAgg28 w) (fun w => sizeOf28 w) hld, ?_⟩; (case ok => exact fun _ _ => ⟨trivial, trivial, trivial, trivial, trivial, trivial, trivial, trivial, rfl, trivial⟩))) | intro _)
   all_goals first | (exfalso; omega) | (have e : IE = 8 := by { rw [Xi, if_pos (by assumption)] }; rw [hat, e, if_pos (by decide)]; rfl) | (have e : IE = XE := by { rw [Xi, if_neg (by assumption)] }; rw [hat, e, if_pos (by assumption)]; rfl) | (refine hI _ ⟨i + 1, by omega, hnx (by rw [Xi, if_neg (by assumption)]; omega)⟩ (by dsimp only; omega) yW; done)
  ·have e : i = n := by omega
   subst e
   rw [<- hn, List.take_length] at hzz
   rw [hzz]
   repeat' (first | exact ⟨⟩ | refine yG ?_ ?_ | intro _)
   all_goals first | rfl | (exfalso; omega)
theorem Ez (t : af.VT) (a : Option Addr) (cap : Nat) (w : World) (hw : XV w) (hr : XR w) (ht : oL w t a cap) : QC 14 #[jk t a cap] w (.int .i64 (af.iW t)) := by
 have hv : af.iW t = if af.dY t ≠ 0 \/ t.kind ≠ 5 then af.dY t else af.Kw t := rfl
 by_cases h5 : t.kind = 5
 ·refine PR t a cap w hw hr ht h5 _ rfl _ (fun h => ?_) (fun h => ?_)
  ·have h0 := kM (t := t) (by omega) h
   rw [hv, if_pos (.inl (by omega)), h0]
  ·have h0 : af.dY t = 0 := by
    rw [pY (by omega) h, if_neg (by omega), if_neg (by omega), if_neg (by omega)]
   rw [hv, if_neg (by omega)]
 ·rw [hv, if_pos (.inr h5)]
  exact Jy t a cap w hw hr ht.fit h5
end
section
open Go.RowKit
open Sym
attribute [local irreducible] Calls Sym.bM ae.nd ae.bu ae.upd
def ae.Za (x : ae.Num) (k : Nat) : ae.Num := ⟨x.m && decide (k % 2 = 1), x.n ^ k, x.d ^ k⟩
theorem ae.pow_zero (x : ae.Num) : ae.Za x 0 = ae.dR 1 := by simp [ae.Za, ae.dR]
structure RpT where
 i : Nat
 a : Option Addr
 c : Nat
 b : Option Addr
 e : Nat
structure PwT where
 A : Nat
 O : Nat
 m : Nat
 a : Option Addr
 c : Nat
 b : Option Addr
 e : Nat
structure PwI (z : Nat) (t : PwT) : Prop where
 eq : t.O * t.A ^ t.m = z
 a0 : 0 < t.A \/ t.m = 0
 o0 : 0 < t.O
 na : ae.nd 1000000000 t.A <= 1000
 no : ae.nd 1000000000 t.O <= 34
 ha : t.a = none -> t.c = 0
 hb : t.b = none -> t.e = 0
 ca : ae.nd 1000000000 t.A <= t.c
 cb : ae.nd 1000000000 t.O <= t.e
 hm : t.m <= 1000
end
section
open Go.RowKit
open Sym
attribute [local irreducible] Calls Sym.bM ae.nd ae.bu ae.upd ae.ak ae.ay
structure OpI (N : ae.Num) (F : ae.Fr) (E : Int) : Prop where
 d : 0 < N.d
 n1 : ae.nd 10 N.n <= 1000000
 n2 : ae.nd 10 N.d <= 1000000
 hF : F = ae.ak N
 hE : E = ae.ay N
structure LwT where
 a1 : Option Addr
 c1 : Nat
 a2 : Option Addr
 c2 : Nat
 b1 : Option Addr
 e1 : Nat
 b2 : Option Addr
 e2 : Nat
section
attribute [local semireducible] ae.ak ae.ay
end
theorem nJ (c : Int) (w : World) : Calls Tryz.prog 18 #[.int .i64 c] w (ql (af.eu c) w) := by
 refine yE func18 rfl results18 ntmps18 [] [] [.int .i64 c] w ?_
 repeat' (first | exact ⟨⟩ | refine yG ?_ ?_ | intro _)
 all_goals rfl
theorem Eo (b : Bool) (w : World) : Calls Tryz.prog 24 #[.bool b] w (ql (af.AP b) w) := by
 refine yE func24 rfl results24 ntmps24 [] [] [.bool b] w ?_
 repeat' (first | exact ⟨⟩ | refine yG ?_ ?_ | intro _)
 all_goals rfl
theorem CO (s : List UInt8) (w : World) (hs : s.length <= 9223372036854775807) : Calls Tryz.prog 21 #[.string (ah s)] w (ql (af.jm s) w) := by
 have T := fun (w' : World) => jh s w' hs
 have F := fun (w' : World) => nJ 2 w'
 unfold af.jm
 by_cases h : af.jV s = 0
 ·simp only [if_pos h]
  rw [h] at T
  refine yE func21 rfl results21 ntmps21 [] [] [.str s] w ?_
  repeat' (first | exact ⟨⟩ | refine yG ?_ ?_ | refine yA (.int .i64 0) (fun _ => T) ?_ | intro _)
  all_goals first | (exfalso; omega) | rfl
 ·simp only [if_neg h]
  generalize af.jV s = E at *
  refine yE func21 rfl results21 ntmps21 [] [] [.str s] w ?_
  repeat' (first | exact ⟨⟩ | refine yG ?_ ?_ | refine yA (.int .i64 E) (fun _ => T) ?_ | refine yA (.agg [.int .i64 4, .str [], .str [], .str [], .lit false, .int .i64 2, .int .i64 0, .int .i64 0, .any (.slice none 0 0)]) (fun _ => F) ?_ | intro _)
  all_goals first | (exfalso; omega) | rfl
def af.Tf (x : ae.Num) : af.VT := if ae.ay x = 0 then af.iR (ae.ak x) else af.eu 5
theorem Jp (x : bI) (w : World) (hw0 : 0 < w.heap.size) (hx : aX .i64 10 x w) (hd : 0 < x.d) (ng : ae.nd 10 x.n <= 1000000) (hxd : ae.nd 10 x.d <= 1000000) : Calls Tryz.prog 68 #[x.val 10] w (ql (af.Tf x.num) w) := by
 have R := fun (w' : World) (h : BW w w') => kH x w' (zl hw0 h.size) (hx.below h) hd ng hxd
 have F := fun (w' : World) => nJ 5 w'
 clear hx
 have hV : af.Tf x.num = if ae.ay x.num = 0 then af.iR (ae.ak x.num) else af.eu 5 := rfl
 rw [hV]
 clear hV
 by_cases hE : ae.ay x.num = 0
 ·rw [if_pos hE]
  rw [hE] at R
  clear hE
  obtain ⟨W, hW⟩ : ∃ W, ae.ak x.num = W := ⟨_, rfl⟩
  obtain ⟨W1, W2⟩ := W
  rw [hW] at R ⊢
  clear hW
  obtain ⟨m, n, d, a, c, b, e⟩ := x
  dsimp only [bI.num, bI.val] at *
  refine yE func68 rfl results68 ntmps68 [] [] [.agg [.bool m, .any (.slice a (ae.nd 10 n) c), .any (.slice b (ae.nd 10 d) e)]] w ?_
  repeat' (first | exact ⟨⟩ | refine yG ?_ ?_ | refine yB (.bg [.agg [.str W1, .str W2], .int .i64 0]) (fun _ => R) ?_ | intro _)
  all_goals first | (exfalso; omega) | rfl
 ·rw [if_neg hE]
  generalize ae.ay x.num = E at *
  obtain ⟨W, hW⟩ : ∃ W, ae.ak x.num = W := ⟨_, rfl⟩
  obtain ⟨W1, W2⟩ := W
  rw [hW] at R
  clear hW
  obtain ⟨m, n, d, a, c, b, e⟩ := x
  dsimp only [bI.num, bI.val] at *
  refine yE func68 rfl results68 ntmps68 [] [] [.agg [.bool m, .any (.slice a (ae.nd 10 n) c), .any (.slice b (ae.nd 10 d) e)]] w ?_
  repeat' (first | exact ⟨⟩ | refine yG ?_ ?_ | refine yB (.bg [.agg [.str W1, .str W2], .int .i64 E]) (fun _ => R) ?_ | refine yA (.agg [.int .i64 4, .str [], .str [], .str [], .lit false, .int .i64 5, .int .i64 0, .int .i64 0, .any (.slice none 0 0)]) (fun _ => F) ?_ | intro _)
  all_goals first | (exfalso; omega) | rfl
theorem yz (t : af.VT) (a : Option Addr) (cap : Nat) (w : World) (hw : XR w) (hw0 : 0 < w.heap.size) (h5 : t.kind ≠ 5) (hE : af.dY t = 0) :
  QC 46 #[jk t a cap] w (.string (ah (af.showS t))) := by
 have F := fun (w' : World) (hb : BW w w') => Cm t.code w' (hw.below hb)
 have hS := JE t
 have hB1 : t.on = true -> af.boolT t.on = [84, 82, 85, 69] := fun h => by rw [h]; rfl
 have hB0 : t.on = false -> af.boolT t.on = [70, 65, 76, 83, 69] := fun h => by rw [h]; rfl
 have hE := uo hE
 generalize af.showS t = R at *
 generalize hDT : af.fD (ae.az t.num) = DT at *
 generalize af.iF t.code = FT at *
 generalize af.boolT t.on = BT at *
 obtain ⟨k, ⟨n1, n2⟩, tx, on, cd, rw', cl, its⟩ := t
 unfold jk at *
 dsimp only at *
 generalize its.length = n at *
 by_cases h1 : k = 1
 ·subst h1
  have := SS tx on cd rw' cl a n cap (n1, n2) w hw0 (hE rfl)
  rw [hS, if_pos rfl, <- hDT]
  exact this
 refine yE func46 rfl results46 ntmps46 [] [] [.agg [.int .i64 k, .str n1, .str n2, .str tx, .bool on, .int .i64 cd, .int .i64 rw', .int .i64 cl, .any (.slice a n cap)]] w ?_
 repeat' (first | exact ⟨⟩ | refine yG ?_ ?_ | refine yB (.str FT) (fun _ => F) ?_ | intro _)
 all_goals first | (exfalso; omega) | skip
 all_goals rw [hS]
 all_goals first | (rw [if_pos (by assumption : k = 1)]; rfl) | (rw [if_neg (by assumption : ¬ k = 1), if_pos (by assumption : k = 2)]; rfl) | (rw [if_neg (by assumption : ¬ k = 1), if_neg (by assumption : ¬ k = 2), if_pos (by assumption : k = 3)]; first | (rw [hB1 (by assumption)]; rfl) | (rw [hB0 (by assumption)]; rfl)) | (rw [if_neg (by assumption : ¬ k = 1), if_neg (by assumption : ¬ k = 2), if_neg (by assumption : ¬ k = 3), if_pos (by assumption : k = 4)]; rfl) | (rw [if_neg (by assumption : ¬ k = 1), if_neg (by assumption : ¬ k = 2), if_neg (by assumption : ¬ k = 3), if_neg (by assumption : ¬ k = 4)]; rfl)
theorem sJ (t : af.VT) (a : Option Addr) (cap : Nat) (w : World) (hw : XV w) (hr : XR w) (ht : oL w t a cap) :
  ∃ p, Yf w t p fun w' => QC 83 #[jk t a cap] w' (jk (af.iY t) p.1 p.2) := by
 have V := fun (w' : World) (hb : BW w w') => Ez t a cap w' (hw.below hb) (hr.below hb) (ht.lift hb)
 by_cases h : af.iW t = 0
 ·rw [h] at V
  by_cases h5 : t.kind = 5
  ·obtain ⟨x, r, hx, h1, h2⟩ := af.sQ h h5
   obtain ⟨⟨p1, p2⟩, ad, rfl, hxi, hld⟩ := ht.first hx
   refine ⟨(p1, p2), ⟨by rw [af.CQ h h5 hx]; exact hxi, fun w' hb => ?_⟩⟩
   rw [show af.iY t = x from af.CQ h h5 hx]
   replace hld := fun w2 (h2 : BW w' w2) => hld w2 (hb.trans (h2.mono hb.size))
   have hn1 : 0 < t.items.length := by rw [hx]; simp
   replace V := fun w2 (h2 : BW w' w2) => V w2 (hb.trans (h2.mono hb.size))
   clear ht h h2 hxi hx h1 hw hb
   obtain ⟨k, ⟨n1, n2⟩, tx, on, cd, rw', cl, its⟩ := t
   unfold jk at *
   dsimp only at *
   generalize its.length = n at *
   subst h5
   obtain ⟨xk, ⟨m1, m2⟩, xt, xo, xc, xr, xl, xi⟩ := x
   dsimp only at *
   generalize xi.length = xn at *
   refine yE func83 rfl results83 ntmps83 [] [] [.agg [.int .i64 5, .str n1, .str n2, .str tx, .bool on, .int .i64 cd, .int .i64 rw', .int .i64 cl, .any (.slice (some ad) n cap)]] w' ?_
   repeat' (first | exact ⟨⟩ | refine yG ?_ ?_ | refine yN (j := 0) underlying26 sizeOf28 ?_ | (refine ⟨_, ?ok, jL (vs := [.int .i64 xk, .str m1, .str m2, .str xt, .bool xo, .int .i64 xc, .int .i64 xr, .int .i64 xl, .any (.slice p1 xn p2)]) (fun w => isAgg28 w) (fun w => sizeOf28 w) hld, ?_⟩; (case ok => exact fun _ _ => ⟨trivial, trivial, trivial, trivial, trivial, trivial, trivial, trivial, rfl, trivial⟩)) | refine yB (.int .i64 0) (fun _ => V) ?_ | intro _)
   all_goals first | (exfalso; omega) | rfl
  ·refine ⟨(a, cap), ⟨by rw [af.CU h h5]; exact ht, fun w' hb => ?_⟩⟩
   rw [show af.iY t = t from af.CU h h5]
   replace V := fun w2 (h2 : BW w' w2) => V w2 (hb.trans (h2.mono hb.size))
   clear ht h hw hb
   obtain ⟨k, ⟨n1, n2⟩, tx, on, cd, rw', cl, its⟩ := t
   unfold jk at *
   dsimp only at *
   generalize its.length = n at *
   refine yE func83 rfl results83 ntmps83 [] [] [.agg [.int .i64 k, .str n1, .str n2, .str tx, .bool on, .int .i64 cd, .int .i64 rw', .int .i64 cl, .any (.slice a n cap)]] w' ?_
   repeat' (first | exact ⟨⟩ | refine yG ?_ ?_ | refine yB (.int .i64 0) (fun _ => V) ?_ | intro _)
   all_goals first | (exfalso; omega) | rfl
 ·refine ⟨(none, 0), ⟨by rw [af.CS h]; exact .flat rfl ⟨Nat.zero_le _, Nat.zero_le _, Nat.zero_le _, Nat.zero_le _⟩, fun w' hb => ?_⟩⟩
  rw [show af.iY t = af.eu 2 from af.CS h]
  replace V := fun w2 (h2 : BW w' w2) => V w2 (hb.trans (h2.mono hb.size))
  have F := fun (w' : World) => nJ 2 w'
  generalize af.iW t = E at *
  clear ht hw hb
  obtain ⟨k, ⟨n1, n2⟩, tx, on, cd, rw', cl, its⟩ := t
  unfold jk at *
  dsimp only at *
  generalize its.length = n at *
  refine yE func83 rfl results83 ntmps83 [] [] [.agg [.int .i64 k, .str n1, .str n2, .str tx, .bool on, .int .i64 cd, .int .i64 rw', .int .i64 cl, .any (.slice a n cap)]] w' ?_
  repeat' (first | exact ⟨⟩ | refine yG ?_ ?_ | refine yB (.int .i64 E) (fun _ => V) ?_ | refine yA (.agg [.int .i64 4, .str [], .str [], .str [], .lit false, .int .i64 2, .int .i64 0, .int .i64 0, .any (.slice none 0 0)]) (fun _ => F) ?_ | intro _)
  all_goals first | (exfalso; omega) | rfl
namespace af
noncomputable def Zi (t : VT) : Str := if (iY t).kind = 4 then [] else showS (iY t)
def toC (t : VT) : Int := if (iY t).kind = 4 then (iY t).code else 0
end af
theorem Ju (t : af.VT) (a : Option Addr) (cap : Nat) (w : World) (hw : XV w) (hr : XR w) (hw0 : 0 < w.heap.size) (ht : oL w t a cap) :
  QC 34 #[jk t a cap] w (.tuple #[.string (ah (af.Zi t)), .int .i64 (af.toC t)]) := by
 obtain ⟨⟨p1, p2⟩, hp, hrun⟩ := sJ t a cap w hw hr ht
 obtain ⟨s5, sE⟩ := af.Jz t
 have S := fun (w' : World) (hb : BW w w') => yz (af.iY t) p1 p2 w' (hr.below hb) (zl hw0 hb.size) s5 sE
 unfold af.Zi af.toC
 generalize af.showS (af.iY t) = R at *
 clear hp ht s5 sE
 generalize af.iY t = x at *
 obtain ⟨k, ⟨n1, n2⟩, tx, on, cd, rw', cl, its⟩ := t
 obtain ⟨xk, ⟨m1, m2⟩, xt, xo, xc, xr, xl, xi⟩ := x
 unfold jk at *
 dsimp only at *
 generalize its.length = n at *
 generalize xi.length = xn at *
 refine yE func34 rfl results34 ntmps34 [] [] [.agg [.int .i64 k, .str n1, .str n2, .str tx, .bool on, .int .i64 cd, .int .i64 rw', .int .i64 cl, .any (.slice a n cap)]] w ?_
 repeat' (first | exact ⟨⟩ | refine yG ?_ ?_ | refine yB (.agg [.int .i64 xk, .str m1, .str m2, .str xt, .bool xo, .int .i64 xc, .int .i64 xr, .int .i64 xl, .any (.slice p1 xn p2)]) (fun _ => hrun) ?_ | refine yB (.str R) (fun _ => S) ?_ | intro _)
 all_goals first | (exfalso; omega) | (rw [if_pos (by assumption), if_pos (by assumption)]; rfl) | (rw [if_neg (by assumption), if_neg (by assumption)]; rfl)
end
section
open Go.RowKit
open Sym
attribute [local irreducible] Calls Sym.bM ae.nd ae.bu ae.upd ae.ak ae.ay
namespace af
def WH (t : VT) : ae.Fr := if (iY t).kind = 2 then (if (bG (iY t).text).kind = 1 then (bG (iY t).text).num else ([], [])) else if (iY t).kind = 1 then (iY t).num else if (iY t).kind = 4 then ([], []) else if (iY t).on = true then ([49], [49]) else ([48], [49])
def Uc (t : VT) : Int := if (iY t).kind = 2 then (if (bG (iY t).text).kind = 1 then 0 else 2) else if (iY t).kind = 4 then (iY t).code else 0
def Yo (t : VT) : Bool := if (iY t).kind = 2 then (if (bG (iY t).text).kind = 3 then (bG (iY t).text).on else false) else if (iY t).kind = 1 then !decide ((iY t).num.1 = [48]) else if (iY t).kind = 4 then false else (iY t).on
def Yp (t : VT) : Int := if (iY t).kind = 2 then (if (bG (iY t).text).kind = 3 then 0 else 2) else if (iY t).kind = 4 then (iY t).code else 0
end af
section
variable (t : af.VT) (a : Option Addr) (cap : Nat) (w : World) (hw : XV w) (hw0 : 0 < w.heap.size) (ht : oL w t a cap)
include hw hw0 ht
theorem J5 : QC 48 #[jk t a cap] w (.tuple #[.string (ah (af.Zi t)), .int .i64 (af.toC t)]) := by
 obtain ⟨⟨p1, p2⟩, hp, hrun⟩ := sS t a cap w hw ht
 obtain ⟨s5, sE⟩ := af.Jz t
 have S := fun (w' : World) (hb : BW w w') => CW (af.iY t) p1 p2 w' (hw.below hb) (zl hw0 hb.size) hp.fit s5 sE
 unfold af.Zi af.toC
 generalize af.showS (af.iY t) = R at *
 clear hp ht s5 sE
 generalize af.iY t = x at *
 obtain ⟨k, ⟨n1, n2⟩, tx, on, cd, rw', cl, its⟩ := t
 obtain ⟨xk, ⟨m1, m2⟩, xt, xo, xc, xr, xl, xi⟩ := x
 unfold jk at *
 dsimp only at *
 generalize its.length = n at *
 generalize xi.length = xn at *
 refine yE func48 rfl results48 ntmps48 [] [] [.agg [.int .i64 k, .str n1, .str n2, .str tx, .bool on, .int .i64 cd, .int .i64 rw', .int .i64 cl, .any (.slice a n cap)]] w ?_
 repeat' (first | exact ⟨⟩ | refine yG ?_ ?_ | refine yB (.agg [.int .i64 xk, .str m1, .str m2, .str xt, .bool xo, .int .i64 xc, .int .i64 xr, .int .i64 xl, .any (.slice p1 xn p2)]) (fun _ => hrun) ?_ | refine yB (.str R) (fun _ => S) ?_ | intro _)
 all_goals first | (exfalso; omega) | (rw [if_pos (by assumption), if_pos (by assumption)]; rfl) | (rw [if_neg (by assumption), if_neg (by assumption)]; rfl)
variable (EN : ∀ (s : List UInt8) (w' : World), BW w w' -> s.length <= 9223372036854775807 -> QC 11 #[.string (ah s)] w' (jk (af.bG s) none 0))
include EN
theorem J4 : QC 49 #[jk t a cap] w (.tuple #[.bool (af.Yo t), .int .i64 (af.Yp t)]) := by
 obtain ⟨⟨p1, p2⟩, hp, hrun⟩ := sS t a cap w hw ht
 have E := fun (w' : World) (hb : BW w w') => EN (af.iY t).text w' hb hp.fit.tx
 unfold af.Yo af.Yp
 have _u := hw0
 clear hp ht EN hw _u hw0
 generalize af.iY t = x at *
 generalize af.bG x.text = y at *
 obtain ⟨k, ⟨n1, n2⟩, tx, on, cd, rw', cl, its⟩ := t
 obtain ⟨xk, ⟨m1, m2⟩, xt, xo, xc, xr, xl, xi⟩ := x
 obtain ⟨yk, ⟨l1, l2⟩, yt, yo, yc, yr, yl, yi⟩ := y
 unfold jk at *
 dsimp only at *
 generalize its.length = n at *
 generalize xi.length = xn at *
 generalize yi.length = yn at *
 refine yE func49 rfl results49 ntmps49 [] [] [.agg [.int .i64 k, .str n1, .str n2, .str tx, .bool on, .int .i64 cd, .int .i64 rw', .int .i64 cl, .any (.slice a n cap)]] w ?_
 repeat' (first | exact ⟨⟩ | refine yG ?_ ?_ | refine yB (.agg [.int .i64 xk, .str m1, .str m2, .str xt, .bool xo, .int .i64 xc, .int .i64 xr, .int .i64 xl, .any (.slice p1 xn p2)]) (fun _ => hrun) ?_ | refine yB (.agg [.int .i64 yk, .str l1, .str l2, .str yt, .bool yo, .int .i64 yc, .int .i64 yr, .int .i64 yl, .any (.slice none yn 0)]) (fun _ => E) ?_ | intro _)
 all_goals first | (exfalso; omega) | skip
 all_goals (clear hrun E; simp_all [SV.den, SV.aF])
variable (O1 : ∀ w', BW w w' -> QC 77 #[.int .i64 1] w' (iI ([49], [49]))) (O0 : ∀ w', BW w w' -> QC 77 #[.int .i64 0] w' (iI ([48], [49])))
include O1 O0
theorem MI : QC 47 #[jk t a cap] w (.tuple #[iI (af.WH t), .int .i64 (af.Uc t)]) := by
 obtain ⟨⟨p1, p2⟩, hp, hrun⟩ := sS t a cap w hw ht
 have E := fun (w' : World) (hb : BW w w') => EN (af.iY t).text w' hb hp.fit.tx
 unfold af.WH af.Uc
 have _u := hw0
 clear hp ht EN hw _u hw0
 generalize af.iY t = x at *
 generalize af.bG x.text = y at *
 obtain ⟨k, ⟨n1, n2⟩, tx, on, cd, rw', cl, its⟩ := t
 obtain ⟨xk, ⟨m1, m2⟩, xt, xo, xc, xr, xl, xi⟩ := x
 obtain ⟨yk, ⟨l1, l2⟩, yt, yo, yc, yr, yl, yi⟩ := y
 unfold jk at *
 dsimp only at *
 generalize its.length = n at *
 generalize xi.length = xn at *
 generalize yi.length = yn at *
 refine yE func47 rfl results47 ntmps47 [] [] [.agg [.int .i64 k, .str n1, .str n2, .str tx, .bool on, .int .i64 cd, .int .i64 rw', .int .i64 cl, .any (.slice a n cap)]] w ?_
 repeat' (first | exact ⟨⟩ | refine yG ?_ ?_ | refine yB (.agg [.int .i64 xk, .str m1, .str m2, .str xt, .bool xo, .int .i64 xc, .int .i64 xr, .int .i64 xl, .any (.slice p1 xn p2)]) (fun _ => hrun) ?_ | refine yB (.agg [.int .i64 yk, .str l1, .str l2, .str yt, .bool yo, .int .i64 yc, .int .i64 yr, .int .i64 yl, .any (.slice none yn 0)]) (fun _ => E) ?_ | refine yB (.agg [.str [49], .str [49]]) (fun _ => O1) ?_ | refine yB (.agg [.str [48], .str [49]]) (fun _ => O0) ?_ | intro _)
 all_goals first | (exfalso; omega) | skip
 all_goals (clear hrun E O1 O0; simp_all [SV.den, SV.aF, iI])
end
end
section
open ae
theorem af.Nc (n : Nat) : ∀ s : List UInt8, s.length = n -> ae.dw s = true -> Lib.decDigits (ae.ax s) = s := by
 induction n using Nat.strongRecOn with
 | _ n ih =>
   intro s hl hd
   have hne : s ≠ [] := by intro e; rw [e] at hd; cases hd
   obtain ⟨l, c, rfl⟩ : ∃ l c, s = l ++ [c] := ⟨s.dropLast, s.getLast hne, (List.dropLast_concat_getLast hne).symm⟩
   have h := hd
   unfold ae.dw at h
   simp only [Bool.and_eq_true, Bool.or_eq_true, List.all_append, List.all_cons, List.all_nil, Bool.and_true] at h
   obtain ⟨-, h2, h3, h4⟩ := h
   unfold ae.aY at h4
   simp only [Bool.and_eq_true, decide_eq_true_eq] at h4
   have c1 : 48 <= c.toNat := h4.1
   have c2 : c.toNat <= 57 := h4.2
   have hc : UInt8.ofNat (48 + (c.toNat - 48)) = c := by rw [show 48 + (c.toNat - 48) = c.toNat by omega]; exact UInt8.ofNat_toNat
   rw [ae.wZ]
   by_cases hl0 : l = []
   ·subst hl0
    rw [show ae.ax [] * 10 + (c.toNat - 48) = c.toNat - 48 by simp [ae.ax, ae.nO], Lib.decDigits_one (by omega), hc]
    rfl
   ·have hp := List.length_pos_iff.2 hl0
    have hg : (l ++ [c]).getD 0 0 = l.getD 0 0 := by
     cases l with
     | nil => exact absurd rfl hl0
     | cons x r => rfl
    have h2' : (l.getD 0 0 != 48) = true := by
     rcases h2 with h2 | h2
     ·rw [<- hg]; exact h2
     ·have := of_decide_eq_true h2
      rw [List.length_append, List.length_singleton] at this; omega
    have hdl : ae.dw l = true := by
     unfold ae.dw
     rw [h2', h3]
     cases l with
     | nil => exact absurd rfl hl0
     | cons x r => rfl
    have hv := ae.wY hdl (fun e => by rw [e] at h2'; revert h2'; decide)
    rw [Lib.decDigits, dif_neg (by omega), show (ae.ax l * 10 + (c.toNat - 48)) / 10 = ae.ax l by omega, show (ae.ax l * 10 + (c.toNat - 48)) % 10 = c.toNat - 48 by omega, hc,
     ih l.length (by rw [<- hl, List.length_append, List.length_singleton]; omega) l rfl hdl]
theorem af.QK (s : List UInt8) : ae.pU (ae.aO s).2 (ae.aO s).1 = s := by
 unfold ae.aO
 by_cases h : s.head? = some 45
 ·rw [if_pos h]
  cases s with
  | nil => cases h
  | cons x r => obtain rfl : x = 45 := by simpa using h
                rfl
 ·rw [if_neg h]; rfl
theorem af.kG {f : ae.Fr} (h : ae.bQ f = 0) : ae.ak (ae.az f) = f /\ ae.ay (ae.az f) = 0 := by
 obtain ⟨h1, h2, h3, h4, h5, h6, h7⟩ := ae.Ak h
 obtain ⟨q1, q2, q3⟩ := ae.fZ h (b := 10) (by omega)
 obtain ⟨e1, e2⟩ := ae.yQ q3 q1 q2 h6 (af.Cb h)
 refine ⟨?_, e1⟩
 rw [e2]
 have d1 := af.Nc _ _ rfl h1
 have d2 := af.Nc _ _ rfl h2
 unfold ae.az
 dsimp only
 rw [d1, d2, af.QK]
end
section
open Go.RowKit
open Sym
attribute [local irreducible] Calls Sym.bM ae.nd ae.bu ae.upd ae.ak ae.ay
namespace af
def Ud (t : VT) : ae.Num := if (iY t).kind = 2 then (if (bG (iY t).text).kind = 1 then ae.az (bG (iY t).text).num else ⟨false, 0, 0⟩) else if (iY t).kind = 4 then ⟨false, 0, 0⟩ else if (iY t).kind = 1 then ae.az (iY t).num else if (iY t).on = true then ae.dR 1 else ae.dR 0
end af
theorem TM {t : af.VT} (h : af.dY t = 0) (hk : t.kind ≠ 3) : t.on = false := by
 by_cases h1 : t.kind < 0 \/ 5 < t.kind
 ·rw [oH h1] at h; cases h
 ·by_cases h2 : af.qP t
  ·rw [kM h1 h2] at h; cases h
  ·cases ho : t.on with
   | false => rfl
   | true => exact absurd ((Dp t).2 (.inr (.inr (.inl ⟨hk, ho⟩)))) h2
section
variable (t : af.VT) (a : Option Addr) (cap : Nat) (w : World) (hw : XV w) (hr : XR w) (hw0 : 0 < w.heap.size) (ht : oL w t a cap)
 (EN : ∀ (s : List UInt8) (w' : World), BW w w' -> s.length <= 9223372036854775807 -> QC 12 #[.string (ah s)] w' (jk (af.bG s) none 0))
 (EG : ∀ s, (af.bG s).kind = 1 -> ae.bQ (af.bG s).num = 0)
include hw hr ht EN
theorem Jt : QC 51 #[jk t a cap] w (.tuple #[.bool (af.Yo t), .int .i64 (af.Yp t)]) := by
 obtain ⟨⟨p1, p2⟩, hp, hrun⟩ := sJ t a cap w hw hr ht
 have E := fun (w' : World) (hb : BW w w') => EN (af.iY t).text w' hb hp.fit.tx
 unfold af.Yo af.Yp
 have hon := TM (af.Jz t).2
 clear hp ht EN hw hr
 generalize af.iY t = x at *
 generalize af.bG x.text = y at *
 obtain ⟨k, ⟨n1, n2⟩, tx, on, cd, rw', cl, its⟩ := t
 obtain ⟨xk, ⟨m1, m2⟩, xt, xo, xc, xr, xl, xi⟩ := x
 obtain ⟨yk, ⟨l1, l2⟩, yt, yo, yc, yr, yl, yi⟩ := y
 unfold jk at *
 dsimp only at *
 generalize its.length = n at *
 generalize xi.length = xn at *
 generalize yi.length = yn at *
 refine yE func51 rfl results51 ntmps51 [] [] [.agg [.int .i64 k, .str n1, .str n2, .str tx, .bool on, .int .i64 cd, .int .i64 rw', .int .i64 cl, .any (.slice a n cap)]] w ?_
 repeat' (first | exact ⟨⟩ | refine yG ?_ ?_ | refine yB (.agg [.int .i64 xk, .str m1, .str m2, .str xt, .bool xo, .int .i64 xc, .int .i64 xr, .int .i64 xl, .any (.slice p1 xn p2)]) (fun _ => hrun) ?_ | refine yB (.agg [.int .i64 yk, .str l1, .str l2, .str yt, .bool yo, .int .i64 yc, .int .i64 yr, .int .i64 yl, .any (.slice none yn 0)]) (fun _ => E) ?_ | intro _)
 all_goals first | (exfalso; omega) | skip
 all_goals (clear hrun E; first | (simp_all [SV.den, SV.aF]; done) | (have h3 : xk = 3 := Decidable.byContradiction (fun h => absurd (by assumption) (ne_true_of_eq_false (hon h))); simp_all [SV.den, SV.aF]))
include EG hw0
theorem LP : Calls Tryz.prog 50 #[jk t a cap] w (iC .i64 10 (af.Ud t) (af.Uc t) w) := by
 obtain ⟨⟨p1, p2⟩, hp, hrun⟩ := sJ t a cap w hw hr ht
 have E := fun (w' : World) (hb : BW w w') => EN (af.iY t).text w' hb hp.fit.tx
 have sE := uo (af.Jz t).2
 have R0 := fun (h : (af.iY t).kind = 1) (w' : World) (hb : BW w w') => yg (af.iY t).num w' (zl hw0 hb.size) (sE h)
 have R1 := fun (h : (af.bG (af.iY t).text).kind = 1) (w' : World) (hb : BW w w') => yg (af.bG (af.iY t).text).num w' (zl hw0 hb.size) (EG _ h)
 have W1 := fun (w' : World) (hb : BW w w') => mO 1 w' (zl hw0 hb.size) (by omega) (by omega)
 have W0 := fun (w' : World) (hb : BW w w') => mO 0 w' (zl hw0 hb.size) (by omega) (by omega)
 have hz0 := ae.aT 10
 unfold af.Ud af.Uc
 clear hp ht EN hw hr sE EG
 generalize af.iY t = x at *
 generalize af.bG x.text = y at *
 obtain ⟨k, ⟨n1, n2⟩, tx, on, cd, rw', cl, its⟩ := t
 obtain ⟨xk, ⟨m1, m2⟩, xt, xo, xc, xr, xl, xi⟩ := x
 obtain ⟨yk, ⟨l1, l2⟩, yt, yo, yc, yr, yl, yi⟩ := y
 unfold jk at *
 dsimp only at *
 generalize its.length = n at *
 generalize xi.length = xn at *
 generalize yi.length = yn at *
 generalize ae.az (m1, m2) = M0 at *
 generalize ae.az (l1, l2) = M1 at *
 generalize ae.dR 1 = M2 at *
 generalize ae.dR 0 = M3 at *
 refine yE func50 rfl results50 ntmps50 [] [] [.agg [.int .i64 k, .str n1, .str n2, .str tx, .bool on, .int .i64 cd, .int .i64 rw', .int .i64 cl, .any (.slice a n cap)]] w ?_
 repeat' (first | exact ⟨⟩ | refine yG ?_ ?_ | refine yB (.agg [.int .i64 xk, .str m1, .str m2, .str xt, .bool xo, .int .i64 xc, .int .i64 xr, .int .i64 xl, .any (.slice p1 xn p2)]) (fun _ => hrun) ?_ | refine yB (.agg [.int .i64 yk, .str l1, .str l2, .str yt, .bool yo, .int .i64 yc, .int .i64 yr, .int .i64 yl, .any (.slice none yn 0)]) (fun _ => E) ?_ | (refine dF .i64 10 M0 hw0 (by kernel_rfl) rfl (fun β w' hm => R0 (by omega) w' hm.below) (fun a1 c1 a2 c2 hcap => ?_)) | (refine dF .i64 10 M1 hw0 (by kernel_rfl) rfl (fun β w' hm => R1 (by omega) w' hm.below) (fun a1 c1 a2 c2 hcap => ?_)) | (refine dF .i64 10 M2 hw0 (by kernel_rfl) rfl (fun β w' hm => W1 w' hm.below) (fun a1 c1 a2 c2 hcap => ?_)) | (refine dF .i64 10 M3 hw0 (by kernel_rfl) rfl (fun β w' hm => W0 w' hm.below) (fun a1 c1 a2 c2 hcap => ?_)) | intro _)
 all_goals first | (exfalso; omega) | skip
 all_goals refine ret fun β w' hm => ?_
 all_goals show iC _ _ _ _ _ _ _
 all_goals first
  | (have hx : xk = 2 := (by omega); have hy : ¬ yk = 1 := (by omega); rw [if_pos hx, if_pos hx, if_neg hy, if_neg hy]; exact ⟨⟨false, 0, 0, none, 0, none, 0⟩, by simp [bI.val, ae.aT, SV.den, SV.aF], rfl, dM, sW, hm.below⟩)
  | (have hx : xk = 2 := (by omega); have hy : yk = 1 := (by omega); rw [if_pos hx, if_pos hx, if_pos hy, if_pos hy]; exact ⟨⟨_, _, _, a1, c1, a2, c2⟩, rfl, rfl, ⟨hcap.an, hcap.bn, hcap.cn, hcap.cd⟩, oK (df hm) (nS hm) (df hm) (nS hm), hm.below⟩)
  | (have hx : ¬ xk = 2 := (by omega); have h4 : xk = 4 := (by omega); rw [if_neg hx, if_neg hx, if_pos h4, if_pos h4]; exact ⟨⟨false, 0, 0, none, 0, none, 0⟩, by simp [bI.val, ae.aT, SV.den, SV.aF], rfl, dM, sW, hm.below⟩)
  | (have hx : ¬ xk = 2 := (by omega); have h4 : ¬ xk = 4 := (by omega); rw [if_neg hx, if_neg hx, if_neg h4, if_neg h4]; first | rw [if_pos (by omega : xk = 1)] | rw [if_neg (by omega : ¬ xk = 1), if_pos (by assumption : xo = true)] | rw [if_neg (by omega : ¬ xk = 1), if_neg (fun h => by simp_all : ¬ xo = true)]
     exact ⟨⟨_, _, _, a1, c1, a2, c2⟩, rfl, rfl, ⟨hcap.an, hcap.bn, hcap.cn, hcap.cd⟩, oK (df hm) (nS hm) (df hm) (nS hm), hm.below⟩)

end
end
section
theorem af.Qd : ae.ak (ae.dR 1) = ([49], [49]) /\ ae.ay (ae.dR 1) = 0 /\ ae.nd 10 (ae.dR 1).n <= 300 /\ ae.nd 10 (ae.dR 1).d <= 300 /\ 0 < (ae.dR 1).d := by
 have e : ae.dR 1 = ⟨false, 1, 1⟩ := rfl
 have n1 : ae.nd 10 1 = 1 := ae.gq (by omega)
 obtain ⟨e1, e2⟩ := ae.yQ (x := ⟨false, 1, 1⟩) (by decide) (by dsimp only; omega) (by dsimp only; omega) (by decide) (fun h => by cases h)
 rw [e]
 dsimp only
 rw [e2, e1, n1]
 dsimp only
 rw [Lib.decDigits_one (by omega)]
 exact ⟨rfl, rfl, by omega, by omega, by omega⟩
theorem af.Qc : ae.ak (ae.dR 0) = ([48], [49]) /\ ae.ay (ae.dR 0) = 0 /\ ae.nd 10 (ae.dR 0).n <= 300 /\ ae.nd 10 (ae.dR 0).d <= 300 /\ 0 < (ae.dR 0).d := by
 have e : ae.dR 0 = ⟨false, 0, 1⟩ := rfl
 have n1 : ae.nd 10 1 = 1 := ae.gq (by omega)
 have n0 := ae.aT 10
 rw [e, ae.ak, ae.ay, if_pos rfl, if_pos rfl]
 dsimp only
 rw [n0, n1]
 exact ⟨rfl, rfl, by omega, by omega, by omega⟩
theorem af.Y6 (t : af.VT) (EG : ∀ s, (af.bG s).kind = 1 -> ae.bQ (af.bG s).num = 0) (h : af.Uc t = 0) :
  ae.ak (af.Ud t) = af.WH t /\ ae.ay (af.Ud t) = 0 /\ ae.nd 10 (af.Ud t).n <= 300 /\ ae.nd 10 (af.Ud t).d <= 300 /\ 0 < (af.Ud t).d := by
 obtain ⟨s5, sE⟩ := af.Jz t
 have EG := EG (af.iY t).text
 unfold af.Uc at h
 unfold af.Ud af.WH
 generalize af.iY t = x at *
 generalize af.bG x.text = y at *
 have hr : ∀ f, ae.bQ f = 0 -> ae.ak (ae.az f) = f /\ ae.ay (ae.az f) = 0 /\ ae.nd 10 (ae.az f).n <= 300 /\ ae.nd 10 (ae.az f).d <= 300 /\ 0 < (ae.az f).d := fun f hf => by
  obtain ⟨q1, q2, q3⟩ := ae.fZ hf (b := 10) (by omega)
  obtain ⟨r1, r2⟩ := af.kG hf
  exact ⟨r1, r2, q1, q2, q3⟩
 by_cases h2 : x.kind = 2
 ·rw [if_pos h2] at h
  rw [if_pos h2, if_pos h2]
  by_cases h1 : y.kind = 1
  ·rw [if_pos h1, if_pos h1]
   exact hr _ (EG h1)
  ·rw [if_neg h1] at h; cases h
 ·rw [if_neg h2] at h
  rw [if_neg h2, if_neg h2]
  by_cases h4 : x.kind = 4
  ·rw [if_pos h4] at h
   exfalso
   by_cases z1 : x.kind < 0 \/ 5 < x.kind
   ·omega
   ·by_cases z2 : af.qP x
    ·rw [kM z1 z2] at sE; cases sE
    ·rw [pY z1 z2, if_neg (by omega), if_neg (by omega), if_pos ⟨h4, by omega⟩] at sE; cases sE
  ·rw [if_neg h4]
   by_cases h1 : x.kind = 1
   ·rw [if_pos h1, if_pos h1]
    exact hr _ (uo sE h1)
   ·rw [if_neg h1, if_neg h1, if_neg h4]
    by_cases ho : x.on = true
    ·rw [if_pos ho, if_pos ho]; exact af.Qd
    ·rw [if_neg ho, if_neg ho]; exact af.Qc
theorem af.Xv (t : af.VT) (h : af.Uc t ≠ 0) : af.WH t = ([], []) := by
 unfold af.Uc at h
 unfold af.WH
 generalize af.iY t = x at *
 generalize af.bG x.text = y at *
 by_cases h2 : x.kind = 2
 ·rw [if_pos h2] at h ⊢
  by_cases h1 : y.kind = 1
  ·rw [if_pos h1] at h; exact absurd rfl h
  ·rw [if_neg h1]
 ·rw [if_neg h2] at h ⊢
  by_cases h4 : x.kind = 4
  ·rw [if_neg (by omega), if_pos h4]
  ·rw [if_neg h4] at h; exact absurd rfl h
end
section
open Go.RowKit
open Sym
attribute [local irreducible] Calls Sym.bM ae.nd ae.bu ae.upd ae.ak ae.ay af.bD
theorem yf (s : List UInt8) (w : World) (h : s.head? ≠ some 39) : QC 54 #[.string (ah s), .string (ah [39])] w (.tuple #[.string (ah s), .bool false]) := by
 refine (Tryz.strings_CutPrefix (ah s) (ah [39]) w).mono ?_
 rintro e w' ⟨h', rfl⟩
 refine ⟨?_, Below.refl _ _⟩
 rw [h', show (ah s).data.toList = s from rfl, show (ah [39]).data.toList = [39] from rfl]
 have : Lib.hasPrefix s [39] = false := by
  unfold Lib.hasPrefix
  cases s with
  | nil => rfl
  | cons d r =>
    have : ¬ (39 : UInt8) = d := fun e => h (by rw [<- e]; rfl)
    simp [List.isPrefixOf, this]
 unfold Lib.trimPrefix
 rw [this, if_neg Bool.false_ne_true]
 rfl
def qB : List SV := [.str (af.bD 0), .str (af.bD 1), .str (af.bD 2), .str (af.bD 3), .str (af.bD 4), .str (af.bD 5), .str (af.bD 6), .str (af.bD 7), .str (af.bD 8)]
theorem uT (i : Nat) (h : i < 9) : qB[i]? = some (.str (af.bD i)) := by
 rcases i with _ | _ | _ | _ | _ | _ | _ | _ | _ | i
 all_goals first | (exfalso; omega) | rfl
theorem Bh (n : Nat) : SV.oks n qB := ⟨trivial, trivial, trivial, trivial, trivial, trivial, trivial, trivial, trivial, trivial⟩
theorem zq (w : World) (hw : XV w) : ∀ w', BW w w' -> ∀ (β : Nat -> Nat) (j : Nat) (v : Value), (SV.aF β qB)[j]? = some v -> w'.cell? ((⟨0, 0, none⟩ : Addr).add j) = some v := fun w' hb β j v hv => by
 have hj : j < 9 := by
  have := (List.getElem?_eq_some_iff.1 hv).1
  rwa [SV.fV] at this
 have h := (hw.below hb).Yw j hj
 rw [SV.kY, uT j hj] at hv
 cases hv
 have e : (⟨0, 0, none⟩ : Addr).add j = ⟨0, j, none⟩ := by simp [Addr.add]; omega
 rw [e]; exact h
abbrev Ep : List SV := [.fn 56 [], .fn 57 [], .fn 58 [], .fn 59 [], .fn 60 []]
theorem zL : ∀ β, ∀ u ∈ SV.aF β Ep, u.cells = #[u] := by
 intro β u hu
 simp only [Ep, SV.aF, SV.den, List.mem_cons, List.not_mem_nil, or_false] at hu
 rcases hu with rfl | rfl | rfl | rfl | rfl <;> rfl
theorem Ov (s L F1 F2 : List UInt8) (w : World) (hw : XV w) (hs : s ≠ []) (hT : af.jV s = 0) (hl : s.length <= 9223372036854775807) (hq : s.head? ≠ some 39)
  (hL : ∀ w', BW w w' -> QC 55 #[.string (ah s)] w' (.string (ah L)))
  (hL1 : L ≠ [116, 114, 117, 101]) (hL2 : L ≠ [102, 97, 108, 115, 101]) (hf : ∀ i, 1 <= i -> i < 9 -> s ≠ af.bD i)
  (hN : ∀ w', BW w w' -> QC 56 #[.string (ah s)] w' (.tuple #[iI (F1, F2), .bool true]))
  (hV : ∀ w', BW w w' -> Calls Tryz.prog 19 #[iI (F1, F2)] w' (ql (af.iR (F1, F2)) w')) :
  Calls Tryz.prog 11 #[.string (ah s)] w (ql (af.iR (F1, F2)) w) := by
 have T := fun (w' : World) (h : BW w w') => mM s w' (hw.below h) hl
 rw [hT] at T
 have Q := fun (w' : World) => yf s w' hq
 have hfc := zq w hw
 have hfg := uT
 refine yE func11 rfl results11 ntmps11 [] [] [.str s] w ?_
 repeat' (first | exact ⟨⟩ | refine yG ?_ ?_ | refine yB (.int .i64 0) (fun _ => T) ?_ | refine yA (.bg [.str s, .lit false]) (fun _ => Q) ?_ | refine yB (.str L) (fun _ => hL) ?_ | ((with_reducible show ∃ _ : SV, _); first | (refine ⟨.agg qB, ?ok, jL (vs := qB) (fun w => isAgg81 w) (fun w => sizeOf81 w) hfc, ?_⟩; (case ok => exact fun _ _ => Bh _))) | intro _)
 all_goals first | (exfalso; contradiction) | skip
 refine yZ (T := {i : Nat // i <= 9}) (fun t => ⟨[(0, .str s), (2, .ptr 0 0), (38, .agg qB), (39, .int .i64 (t.1 : Nat))], [(0, true, .cells 28 [.int .i64 0, .str [], .str [], .str [], .lit false, .int .i64 0, .int .i64 0, .int .i64 0, .any (.slice none 0 0)])], 1, 69⟩) (fun t => 9 - t.1) ⟨0, Nat.zero_le _⟩ [] [] (fun t I hI => ?_)
 obtain ⟨i, hi⟩ := t
 dsimp only
 by_cases hlt : i < 9
 ·have hg := hfg i hlt
  have hne := hf i
  generalize af.bD i = X at *
  repeat' (first | exact ⟨⟩ | refine yG ?_ ?_ | ((with_reducible show ∃ _ : SV, _); first | (refine ⟨.str X, ?ok, bH (j := i) underlying81 (fun w => sizeOf9 w) (fun w => isAgg9 w) hlt hg, ?_⟩; (case ok => exact fun _ _ => trivial))) | intro _)
  all_goals first | (exfalso; omega) | (exfalso; exact hne (by omega) hlt (by assumption)) | (refine hI _ ⟨i + 1, by omega⟩ (by dsimp only; omega) yW; done)
 ·repeat' (first | exact ⟨⟩ | refine yG ?_ ?_ | ((with_reducible show ∃ _ : SV, _); first | (refine ⟨.agg Ep, ?ok, nP rfl underlying83 (fun w => sizeOf82 w) (fun w => zeroValue83 w) rfl zL, ?_⟩; (case ok => exact fun _ h => h))) | intro _)
  all_goals first | (exfalso; omega) | skip
  refine yZ (T := Unit) (fun t => ⟨[(0, .str s), (2, .ptr 0 0), (53, .agg Ep), (54, .int .i64 0)], [(0, true, .cells 28 [.int .i64 0, .str [], .str [], .str [], .lit false, .int .i64 0, .int .i64 0, .int .i64 0, .any (.slice none 0 0)])], 1, 69⟩) (fun t => 0) () [] [] (fun t I hI => ?_)
  repeat' (first | exact ⟨⟩ | refine yG ?_ ?_ | refine yB (.bg [.agg [.str F1, .str F2], .lit true]) (fun _ => hN) ?_ | refine yB (.agg [.int .i64 1, .str F1, .str F2, .str [], .lit false, .int .i64 0, .int .i64 0, .int .i64 0, .any (.slice none 0 0)]) (fun _ => hV) ?_ | ((with_reducible show ∃ _ : SV, _); first | (refine ⟨.fn 56 [], ?ok, bH (j := 0) underlying83 (fun w => sizeOf82 w) (fun w => isAgg82 w) (by omega) rfl, ?_⟩; (case ok => exact fun _ _ => trivial))) | intro _)
  all_goals first | (exfalso; omega) | rfl
end
end Go.Proofs.YtdkhkfdenlabaaaGreatDoor
