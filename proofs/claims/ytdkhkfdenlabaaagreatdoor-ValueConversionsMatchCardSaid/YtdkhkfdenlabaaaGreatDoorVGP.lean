/- Values, the program: errors of values. -/
import Derived.Test.YtdkhkfdenlabaaaGreatDoorVGG
import Derived.Test.YtdkhkfdenlabaaaGreatDoorVGO
import Derived.Test.YtdkhkfdenlabaaaGreatDoorVGN
set_option linter.unusedSimpArgs false
set_option linter.unusedVariables false
set_option maxRecDepth 100000
set_option maxHeartbeats 64000000
namespace Go.Proofs.YtdkhkfdenlabaaaGreatDoor
open Go.Proofs.Tryz
section
open Go.RowKit
open Sym
attribute [local irreducible] Calls Sym.bM ae.nd ae.bu ae.upd ae.ak ae.ay
abbrev jk (t : af.VT) (a : Option Addr) (cap : Nat) : Value := .agg #[.int .i64 t.kind, .string (ah t.num.1), .string (ah t.num.2), .string (ah t.text), .bool t.on, .int .i64 t.code, .int .i64 t.rows, .int .i64 t.cols, .slice a t.items.length cap]
def af.qP (t : af.VT) : Prop := (t.kind ≠ 1 /\ ¬ (t.num.1 = [] /\ t.num.2 = [])) \/ (t.kind ≠ 2 /\ t.text ≠ []) \/ (t.kind ≠ 3 /\ t.on = true) \/ (t.kind ≠ 4 /\ t.code ≠ 0) \/ (t.kind ≠ 5 /\ (t.rows ≠ 0 \/ t.cols ≠ 0 \/ t.items.length ≠ 0))
theorem Ij {a b c d : List UInt8} (h : ¬ (a = c /\ b = d)) : bM Tryz.prog 25 [.str a, .str b] [.str c, .str d] false := by
 have := Np a b c d
 have e : (a == c && b == d) = false := by
  cases hh : (a == c && b == d) with
  | false => rfl
  | true => simp only [Bool.and_eq_true, beq_iff_eq] at hh; exact absurd hh h
 rwa [e] at this
theorem yR (t : af.VT) (a : Option Addr) (cap : Nat) (w : World) (Z : Int) (hB : af.qP t -> Z = 4) (hG : ¬ af.qP t -> Z = 0) : QC 69 #[jk t a cap] w (.int .i64 Z) := by
 obtain ⟨k, ⟨n1, n2⟩, tx, on, cd, rw', cl, its⟩ := t
 have hn : (its.length : Int) = 0 \/ 0 < (its.length : Int) := by omega
 unfold af.qP at hB hG
 dsimp only at hB hG ⊢
 unfold jk
 dsimp only
 generalize its.length = n at *
 by_cases hf : n1 = [] /\ n2 = []
 ·obtain ⟨rfl, rfl⟩ := hf
  refine yE func69 rfl results69 ntmps69 [] [] [.agg [.int .i64 k, .str [], .str [], .str tx, .bool on, .int .i64 cd, .int .i64 rw', .int .i64 cl, .any (.slice a n cap)]] w ?_
  repeat' (first | exact ⟨⟩ | refine yG ?_ ?_ | refine yO (aJ underlying26) ?_ | ((with_reducible show ∃ _, _); first | (refine ⟨true, pF _ _, ?_⟩)) | intro _)
  all_goals first | (rw [hB (by clear hB hG; simp_all; try omega)]; rfl) | (rw [hG (by clear hB hG; simp_all; try omega)]; rfl) | (exfalso; omega)
 ·refine yE func69 rfl results69 ntmps69 [] [] [.agg [.int .i64 k, .str n1, .str n2, .str tx, .bool on, .int .i64 cd, .int .i64 rw', .int .i64 cl, .any (.slice a n cap)]] w ?_
  repeat' (first | exact ⟨⟩ | refine yG ?_ ?_ | refine yO (aJ underlying26) ?_ | ((with_reducible show ∃ _, _); first | (refine ⟨false, Ij hf, ?_⟩)) | intro _)
  all_goals first | (rw [hB (by clear hB hG; simp_all; try omega)]; rfl) | (rw [hG (by clear hB hG; simp_all; try omega)]; rfl) | (exfalso; omega)
theorem oH {t : af.VT} (h : t.kind < 0 \/ 5 < t.kind) : af.dY t = 8 := if_pos h
theorem Dp (t : af.VT) : af.qP t ↔ ((t.kind ≠ 1 /\ t.num ≠ ([], [])) \/ (t.kind ≠ 2 /\ t.text ≠ []) \/ (t.kind ≠ 3 /\ t.on = true) \/ (t.kind ≠ 4 /\ t.code ≠ 0) \/ (t.kind ≠ 5 /\ (t.rows ≠ 0 \/ t.cols ≠ 0 \/ t.items ≠ []))) := by
 have h1 : (t.num.1 = [] /\ t.num.2 = []) ↔ t.num = ([], []) := ⟨fun h => Prod.ext h.1 h.2, fun h => by rw [h]; exact ⟨rfl, rfl⟩⟩
 have h2 : t.items.length ≠ 0 ↔ t.items ≠ [] := by rw [Ne, List.length_eq_zero_iff]
 unfold af.qP
 rw [h1, h2]
theorem kM {t : af.VT} (h : ¬ (t.kind < 0 \/ 5 < t.kind)) (hb : af.qP t) : af.dY t = 4 := by
 unfold af.dY
 rw [if_neg h, if_pos ((Dp t).1 hb)]
theorem pY {t : af.VT} (h : ¬ (t.kind < 0 \/ 5 < t.kind)) (hb : ¬ af.qP t) : af.dY t = if t.kind = 1 then ae.bQ t.num else if t.kind = 2 then af.jV t.text else if t.kind = 4 /\ (t.code < 1 \/ 8 < t.code) then 2 else 0 := by
 unfold af.dY
 rw [if_neg h, if_neg (fun h => hb ((Dp t).2 h))]
structure af.VT.Fit (t : af.VT) : Prop where
 n1 : t.num.1.length <= 9223372036854775807
 n2 : t.num.2.length <= 9223372036854775807
 tx : t.text.length <= 9223372036854775807
 it : t.items.length <= 9223372036854775807
section
variable (t : af.VT) (a : Option Addr) (cap : Nat) (w : World) (hw : XV w) (hf : t.Fit)
include hw hf
theorem DN (h : (t.kind < 0 \/ 5 < t.kind) \/ af.qP t) : QC 13 #[jk t a cap] w (.int .i64 (af.dY t)) := by
 have _hw := hw
 by_cases hr : t.kind < 0 \/ 5 < t.kind
 ·rw [oH hr]
  obtain ⟨k, ⟨n1, n2⟩, tx, on, cd, rw', cl, its⟩ := t
  dsimp only at *
  refine yE func13 rfl results13 ntmps13 [] [] [.agg [.int .i64 k, .str n1, .str n2, .str tx, .bool on, .int .i64 cd, .int .i64 rw', .int .i64 cl, .any (.slice a its.length cap)]] w ?_
  repeat' (first | exact ⟨⟩ | refine yG ?_ ?_ | intro _)
  all_goals first | rfl | (exfalso; omega)
 ·have hz := h.resolve_left hr
  rw [kM hr hz]
  have Z := fun (w' : World) => yR t a cap w' 4 (fun _ => rfl) (fun h => absurd hz h)
  clear hz h
  obtain ⟨k, ⟨n1, n2⟩, tx, on, cd, rw', cl, its⟩ := t
  unfold jk at *
  dsimp only at *
  refine yE func13 rfl results13 ntmps13 [] [] [.agg [.int .i64 k, .str n1, .str n2, .str tx, .bool on, .int .i64 cd, .int .i64 rw', .int .i64 cl, .any (.slice a its.length cap)]] w ?_
  repeat' (first | exact ⟨⟩ | refine yG ?_ ?_ | refine yA (.int .i64 4) (fun _ => Z) ?_ | intro _)
  all_goals first | rfl | (exfalso; omega)
theorem Hl (h5 : t.kind ≠ 5) : QC 13 #[jk t a cap] w (.int .i64 (af.dY t)) := by
 by_cases hb : (t.kind < 0 \/ 5 < t.kind) \/ af.qP t
 ·exact DN t a cap w hw hf hb
 ·simp only [not_or] at hb
  rw [pY (by simpa using hb.1) hb.2]
  have Z := fun (w' : World) => yR t a cap w' 0 (fun h => absurd h hb.2) (fun _ => rfl)
  have N := fun (w' : World) (h : BW w w') => check_any t.num w' (hw.below h).pos hf.n1 hf.n2
  have T := fun (w' : World) (h : BW w w') => mM t.text w' (hw.below h) hf.tx
  have F := fun (w' : World) (h : BW w w') => xQ t.code w' (hw.below h)
  have hF := qC t.code
  obtain ⟨hb1, hb2⟩ := hb
  clear hb2
  obtain ⟨k, ⟨n1, n2⟩, tx, on, cd, rw', cl, its⟩ := t
  unfold jk at *
  dsimp only at *
  generalize ae.bQ (n1, n2) = NE at *
  generalize af.jV tx = TE at *
  generalize af.iF cd = FT at *
  refine yE func13 rfl results13 ntmps13 [] [] [.agg [.int .i64 k, .str n1, .str n2, .str tx, .bool on, .int .i64 cd, .int .i64 rw', .int .i64 cl, .any (.slice a its.length cap)]] w ?_
  repeat' (first | exact ⟨⟩ | refine yG ?_ ?_ | refine yA (.int .i64 0) (fun _ => Z) ?_ | refine yB (.int .i64 NE) (fun _ => N) ?_ | refine yB (.int .i64 TE) (fun _ => T) ?_ | refine yB (.str FT) (fun _ => F) ?_ | intro _)
  all_goals first | (exfalso; omega) | (rw [if_pos (by assumption : k = 1)]; rfl) | (rw [if_neg (by assumption : ¬ k = 1), if_pos (by assumption : k = 2)]; rfl) | (rw [if_neg (by assumption : ¬ k = 1), if_neg (by assumption : ¬ k = 2), if_pos ⟨(by assumption : k = 4), hF.1 (by assumption)⟩]; rfl) | (rw [if_neg (by assumption : ¬ k = 1), if_neg (by assumption : ¬ k = 2), if_neg (fun h => (by assumption : ¬ FT = []) (hF.2 h.2))]; rfl) | (rw [if_neg (by assumption : ¬ k = 1), if_neg (by assumption : ¬ k = 2), if_neg (fun h => (by assumption : ¬ k = 4) h.1)]; rfl)
end
def lY (x : af.VT) (p : Option Addr × Nat) : List Value := [.int .i64 x.kind, .string (ah x.num.1), .string (ah x.num.2), .string (ah x.text), .bool x.on, .int .i64 x.code, .int .i64 x.rows, .int .i64 x.cols, .slice p.1 x.items.length p.2]
inductive oL (w : World) : af.VT -> Option Addr -> Nat -> Prop where
 | mk (t : af.VT) (a : Option Addr) (cap : Nat) (ps : Nat -> Option Addr × Nat) (hf : t.Fit) (hc : t.items.length <= cap) (hn : a = none -> cap = 0)
   (hi : ∀ i x, t.items[i]? = some x -> oL w x (ps i).1 (ps i).2)
   (hs : ∀ i x, t.items[i]? = some x -> ∃ ad, a = some ad /\ ad.block < w.heap.size /\ ∀ j v, (lY x (ps i))[j]? = some v -> w.cell? (ad.add (i * 9 + j)) = some v) : oL w t a cap
theorem oL.fit {w : World} {t : af.VT} {a : Option Addr} {cap : Nat} (h : oL w t a cap) : t.Fit := by cases h; assumption
theorem oL.lift {w w' : World} {t : af.VT} {a : Option Addr} {cap : Nat} (h : oL w t a cap) (hb : BW w w') : oL w' t a cap := by
 induction h with
 | mk t a cap ps hf hc hn hi hs ih =>
   refine .mk t a cap ps hf hc hn (fun i x hx => ih i x hx) (fun i x hx => ?_)
   obtain ⟨ad, h1, h2, h3⟩ := hs i x hx
   exact ⟨ad, h1, zl h2 hb.size, fun j v hv => cell_below (h3 j v hv) hb⟩
def af.Kw (t : af.VT) : Int := if t.rows < 1 \/ 100000 < t.rows \/ t.cols < 1 \/ 100000 < t.cols then 2 else if 100000 < t.rows * t.cols then 3 else if (t.items.length : Int) ≠ t.rows * t.cols then 4 else af.lZ t.items
theorem BD : ∀ (l : List af.VT) (i : Nat), af.lZ (l.take i) = 0 -> af.lZ l = af.lZ (l.drop i)
 | [], i, _ => by simp
 | x :: l, 0, _ => rfl
 | x :: l, i + 1, h => by
   simp only [List.take_succ_cons, af.lZ] at h
   by_cases hx : af.OH x = 0
   ·rw [if_neg (fun h => h hx)] at h
    rw [List.drop_succ_cons, <- BD l i h, af.lZ, if_neg (fun h => h hx)]
   ·rw [if_pos hx] at h; exact absurd h hx
theorem NG {l : List af.VT} {i : Nat} {x : af.VT} (h : af.lZ (l.take i) = 0) (hx : l[i]? = some x) : af.lZ l = if af.OH x ≠ 0 then af.OH x else af.lZ (l.drop (i + 1)) := by
 obtain ⟨hlt, he⟩ := List.getElem?_eq_some_iff.1 hx
 rw [BD l i h, List.drop_eq_getElem_cons hlt, he, af.lZ]
theorem Ea {l : List af.VT} {i : Nat} {x : af.VT} (h : af.lZ (l.take i) = 0) (hx : l[i]? = some x) (hz : af.OH x = 0) : af.lZ (l.take (i + 1)) = 0 := by
 rw [af.IL] at h ⊢
 intro y hy
 obtain ⟨hlt, he⟩ := List.getElem?_eq_some_iff.1 hx
 rw [List.take_succ_eq_append_getElem hlt, he] at hy
 simp only [List.mem_append, List.mem_singleton] at hy
 exact hy.elim (h y) (fun e => by rw [e]; exact hz)
theorem Ob (t : af.VT) (a : Option Addr) (cap : Nat) (w : World) (hw : XV w) (ht : oL w t a cap) : QC 71 #[jk t a cap] w (.int .i64 (af.Kw t)) := by
 cases ht with
 | mk t a cap ps hf hc hn hi hs =>
 have hE : af.Kw t = if t.rows < 1 \/ 100000 < t.rows \/ t.cols < 1 \/ 100000 < t.cols then 2 else if 100000 < t.rows * t.cols then 3 else if (t.items.length : Int) ≠ t.rows * t.cols then 4 else af.lZ t.items := rfl
 have C := fun (i : Nat) (x : af.VT) (hx : t.items[i]? = some x) (h5 : x.kind ≠ 5) (w' : World) (h : BW w w') => Hl x (ps i).1 (ps i).2 w' (hw.below h) (hi i x hx).fit h5
 clear hf hn hi
 obtain ⟨k, ⟨n1, n2⟩, tx, on, cd, R, L, its⟩ := t
 unfold jk at *
 dsimp only at *
 have hmul : ¬ (R < 1 \/ 100000 < R \/ L < 1 \/ 100000 < L) -> 1 <= R * L /\ R * L <= 10000000000 := fun h => by
  have h1 : 1 <= R := by omega
  have h2 : 1 <= L := by omega
  have h3 : R * L <= 100000 * 100000 := Int.mul_le_mul (by omega) (by omega) (by omega) (by omega)
  have h4 : 1 * 1 <= R * L := Int.mul_le_mul h1 h2 (by omega) (by omega)
  omega
 generalize hn : its.length = n at *
 by_cases hb : R < 1 \/ 100000 < R \/ L < 1 \/ 100000 < L
 ·rw [hE, if_pos hb]
  clear hmul
  refine yE func71 rfl results71 ntmps71 [] [] [.agg [.int .i64 k, .str n1, .str n2, .str tx, .bool on, .int .i64 cd, .int .i64 R, .int .i64 L, .any (.slice a n cap)]] w ?_
  repeat' (first | exact ⟨⟩ | refine yG ?_ ?_ | intro _)
  all_goals first | rfl | (exfalso; omega)
 ·rw [if_neg hb] at hE
  have hm := hmul hb
  clear hmul
  refine yE func71 rfl results71 ntmps71 [] [] [.agg [.int .i64 k, .str n1, .str n2, .str tx, .bool on, .int .i64 cd, .int .i64 R, .int .i64 L, .any (.slice a n cap)]] w ?_
  repeat' (first | exact ⟨⟩ | refine yG ?_ ?_ | refine yO (aJ underlying26) ?_ | intro _)
  all_goals first | (exfalso; omega) | (rw [hE, if_pos (by omega)]; rfl) | (rw [hE, if_neg (by omega), if_pos (by omega)]; rfl) | skip
  rw [if_neg (by omega), if_neg (by omega)] at hE
  rw [hE]
  clear hE
  refine yZ (T := {i : Nat // i <= n /\ af.lZ (its.take i) = 0}) (fun t => ⟨[(40, .any (.slice a n cap)), (41, .int .i64 (n : Nat)), (42, .int .i64 (t.1 : Nat))], [], 0, 55⟩) (fun t => n - t.1) ⟨0, Nat.zero_le _, by simp [af.lZ]⟩ [] [] (fun t I hI => ?_)
  obtain ⟨i, hi, hz⟩ := t
  dsimp only
  by_cases hlt : i < n
  ·obtain ⟨x, hx⟩ : ∃ x, its[i]? = some x := ⟨its[i]'(by omega), List.getElem?_eq_getElem (by omega)⟩
   obtain ⟨ad, rfl, hblk, hcell⟩ := hs i x hx
   have hat := NG hz hx
   have hnx := Ea hz hx
   have Cx := C i x hx
   have Xi : af.OH x = if x.kind = 5 then 8 else af.dY x := rfl
   have hld : ∀ w', BW w w' -> ∀ (β : Nat -> Nat) (j : Nat) (v : Value), (SV.aF β [.int .i64 x.kind, .str x.num.1, .str x.num.2, .str x.text, .bool x.on, .int .i64 x.code, .int .i64 x.rows, .int .i64 x.cols, .any (.slice (ps i).1 x.items.length (ps i).2)])[j]? = some v -> w'.cell? ((ad.add (i * 9)).add j) = some v := fun w' hb β j v hv => by
    rw [Go.Deep.add_add]
    exact cell_below (hcell j v hv) hb
   unfold jk at Cx
   clear hs C hcell hx hb hm
   generalize (ps i).1 = p1 at *
   generalize (ps i).2 = p2 at *
   generalize af.dY x = XE at *
   generalize af.OH x = IE at *
   obtain ⟨xk, ⟨m1, m2⟩, xt, xo, xc, xr, xl, xi⟩ := x
   dsimp only at *
   repeat' (first | exact ⟨⟩ | refine yG ?_ ?_ | refine yK (.int .i64 XE) (fun β w hm => Cx (by assumption) w hm.below) ?_ | ((with_reducible show ∃ _ : SV, _); first | refine yO (GR (j := i) rfl underlying26 (fun w => sizeOf28 w) (by omega)) ?_ | (refine ⟨_, ?ok, jL (vs := [.int .i64 xk, .str m1, .str m2, .str xt, .bool xo, .int .i64 xc, .int .i64 xr, .int .i64 xl, .any (.slice p1 xi.length p2)]) (fun w => isAgg28 w) (fun w => sizeOf28 w) hld, ?_⟩; (case ok => exact fun _ _ => ⟨trivial, trivial, trivial, trivial, trivial, trivial, trivial, trivial, rfl, trivial⟩))) | intro _)
   all_goals first | (exfalso; omega) | (have e : IE = 8 := by { rw [Xi, if_pos (by assumption)] }; rw [hat, e, if_pos (by decide)]; rfl) | (have e : IE = XE := by { rw [Xi, if_neg (by assumption)] }; rw [hat, e, if_pos (by assumption)]; rfl) | (refine hI _ ⟨i + 1, by omega, hnx (by rw [Xi, if_neg (by assumption)]; omega)⟩ (by dsimp only; omega) yW; done)
  ·have e : i = n := by omega
   subst e
   rw [<- hn, List.take_length] at hz
   rw [hz]
   repeat' (first | exact ⟨⟩ | refine yG ?_ ?_ | intro _)
   all_goals first | rfl | (exfalso; omega)
theorem vI (t : af.VT) (a : Option Addr) (cap : Nat) (w : World) (hw : XV w) (ht : oL w t a cap) : QC 13 #[jk t a cap] w (.int .i64 (af.iW t)) := by
 have hv : af.iW t = if af.dY t ≠ 0 \/ t.kind ≠ 5 then af.dY t else af.Kw t := rfl
 by_cases h5 : t.kind = 5
 ·by_cases hb : (t.kind < 0 \/ 5 < t.kind) \/ af.qP t
  ·have h0 : af.dY t ≠ 0 := by
    rcases hb with h | h
    ·omega
    ·rw [kM (by omega) h]; omega
   rw [hv, if_pos (.inl h0)]
   exact DN t a cap w hw ht.fit hb
  ·simp only [not_or] at hb
   have h0 : af.dY t = 0 := by
    rw [pY (by omega) hb.2, if_neg (by omega), if_neg (by omega), if_neg (by omega)]
   rw [hv, if_neg (by omega)]
   have Z := fun (w' : World) => yR t a cap w' 0 (fun h => absurd h hb.2) (fun _ => rfl)
   have A := fun (w' : World) (h : BW w w') => Ob t a cap w' (hw.below h) (ht.lift h)
   clear hv h0 hb ht
   generalize af.Kw t = AE at *
   obtain ⟨k, ⟨n1, n2⟩, tx, on, cd, rw', cl, its⟩ := t
   unfold jk at *
   dsimp only at *
   subst h5
   refine yE func13 rfl results13 ntmps13 [] [] [.agg [.int .i64 5, .str n1, .str n2, .str tx, .bool on, .int .i64 cd, .int .i64 rw', .int .i64 cl, .any (.slice a its.length cap)]] w ?_
   repeat' (first | exact ⟨⟩ | refine yG ?_ ?_ | refine yA (.int .i64 0) (fun _ => Z) ?_ | refine yB (.int .i64 AE) (fun _ => A) ?_ | intro _)
   all_goals first | (exfalso; omega) | rfl
 ·rw [hv, if_pos (.inr h5)]
  exact Hl t a cap w hw ht.fit h5
abbrev ql (t : af.VT) (w : World) (e : Ending) (w' : World) : Prop := e = .returned (jk t none 0) /\ BW w w'
theorem CZ (t : af.VT) (a : Option Addr) (cap : Nat) (w : World) (hw : XV w) (ht : oL w t a cap) (h : af.iW t = 0) : QC 76 #[jk t a cap] w (jk t a cap) := by
 have C := fun (w' : World) (hb : BW w w') => vI t a cap w' (hw.below hb) (ht.lift hb)
 rw [h] at C
 clear ht h
 obtain ⟨k, ⟨n1, n2⟩, tx, on, cd, rw', cl, its⟩ := t
 unfold jk at *
 dsimp only at *
 refine yE func76 rfl results76 ntmps76 [] [] [.agg [.int .i64 k, .str n1, .str n2, .str tx, .bool on, .int .i64 cd, .int .i64 rw', .int .i64 cl, .any (.slice a its.length cap)]] w ?_
 repeat' (first | exact ⟨⟩ | refine yG ?_ ?_ | refine yB (.int .i64 0) (fun _ => C) ?_ | intro _)
 all_goals first | (exfalso; omega) | rfl
theorem EL (t : af.VT) (a : Option Addr) (cap : Nat) (w : World) (hw : XV w) (ht : oL w t a cap) (h : af.iW t ≠ 0) : Calls Tryz.prog 76 #[jk t a cap] w (ql (af.eu 2) w) := by
 have C := fun (w' : World) (hb : BW w w') => vI t a cap w' (hw.below hb) (ht.lift hb)
 generalize af.iW t = E at *
 clear ht
 obtain ⟨k, ⟨n1, n2⟩, tx, on, cd, rw', cl, its⟩ := t
 unfold jk at *
 dsimp only at *
 refine yE func76 rfl results76 ntmps76 [] [] [.agg [.int .i64 k, .str n1, .str n2, .str tx, .bool on, .int .i64 cd, .int .i64 rw', .int .i64 cl, .any (.slice a its.length cap)]] w ?_
 repeat' (first | exact ⟨⟩ | refine yG ?_ ?_ | refine yB (.int .i64 E) (fun _ => C) ?_ | intro _)
 all_goals first | (exfalso; omega) | rfl
theorem oL.flat {w : World} {t : af.VT} (h : t.items = []) (hf : t.Fit) : oL w t none 0 :=
 .mk t none 0 (fun _ => (none, 0)) hf (by rw [h]; exact Nat.le_refl _) (fun _ => rfl) (fun i x hx => by rw [h] at hx; simp at hx) (fun i x hx => by rw [h] at hx; simp at hx)
theorem vH (t : af.VT) (w : World) (hw : XV w) (hi : t.items = []) (hf : t.Fit) : Calls Tryz.prog 76 #[jk t none 0] w (ql (if af.iW t = 0 then t else af.eu 2) w) := by
 by_cases h : af.iW t = 0
 ·rw [if_pos h]; exact CZ t none 0 w hw (.flat hi hf) h
 ·rw [if_neg h]; exact EL t none 0 w hw (.flat hi hf) h
theorem af.TN (f : ae.Fr) : af.iW (af.iR f) = ae.bQ f := by
 unfold af.iW af.dY af.iR
 simp
theorem af.Qa (s : List UInt8) : af.iW (af.BX s) = af.jV s := by
 unfold af.iW af.dY af.BX
 simp
theorem af.MB (c : Int) : af.iW (af.eu c) = if c < 1 \/ 8 < c then 2 else 0 := by
 unfold af.iW af.dY af.eu
 simp
theorem zO (f : ae.Fr) (w : World) (hw : XV w) (h1 : f.1.length <= 9223372036854775807) (h2 : f.2.length <= 9223372036854775807) : Calls Tryz.prog 19 #[iI f] w (ql (if ae.bQ f = 0 then af.iR f else af.eu 2) w) := by
 have V := fun (w' : World) (hb : BW w w') => vH (af.iR f) w' (hw.below hb) rfl ⟨h1, h2, Nat.zero_le _, Nat.zero_le _⟩
 rw [af.TN] at V
 obtain ⟨f1, f2⟩ := f
 by_cases h : ae.bQ (f1, f2) = 0
 ·simp only [if_pos h] at V ⊢
  refine yE func19 rfl results19 ntmps19 [] [] [.agg [.str f1, .str f2]] w ?_
  repeat' (first | exact ⟨⟩ | refine yG ?_ ?_ | refine yB (.agg [.int .i64 1, .str f1, .str f2, .str [], .lit false, .int .i64 0, .int .i64 0, .int .i64 0, .any (.slice none 0 0)]) (fun _ => V) ?_ | intro _)
  all_goals rfl
 ·simp only [if_neg h] at V ⊢
  refine yE func19 rfl results19 ntmps19 [] [] [.agg [.str f1, .str f2]] w ?_
  repeat' (first | exact ⟨⟩ | refine yG ?_ ?_ | refine yB (.agg [.int .i64 4, .str [], .str [], .str [], .lit false, .int .i64 2, .int .i64 0, .int .i64 0, .any (.slice none 0 0)]) (fun _ => V) ?_ | intro _)
  all_goals rfl
theorem Dc (c : Int) (w : World) (hw : XV w) : Calls Tryz.prog 22 #[.int .i64 c] w (ql (af.eu (if c < 1 \/ 8 < c then 2 else c)) w) := by
 have V := fun (w' : World) (hb : BW w w') => vH (af.eu c) w' (hw.below hb) rfl ⟨Nat.zero_le _, Nat.zero_le _, Nat.zero_le _, Nat.zero_le _⟩
 rw [af.MB] at V
 obtain ⟨r, hr⟩ : ∃ r : Int, r = if c < 1 \/ 8 < c then 2 else c := ⟨_, rfl⟩
 have hV : (if (if c < 1 \/ 8 < c then (2 : Int) else 0) = 0 then af.eu c else af.eu 2) = af.eu r := by
  rw [hr]
  by_cases h : c < 1 \/ 8 < c
  ·rw [if_pos h, if_neg (by omega), if_pos h]
  ·rw [if_neg h, if_pos rfl, if_neg h]
 rw [<- hr]
 simp only [hV] at V
 refine yE func22 rfl results22 ntmps22 [] [] [.int .i64 c] w ?_
 repeat' (first | exact ⟨⟩ | refine yG ?_ ?_ | refine yB (.agg [.int .i64 4, .str [], .str [], .str [], .lit false, .int .i64 r, .int .i64 0, .int .i64 0, .any (.slice none 0 0)]) (fun _ => V) ?_ | intro _)
 all_goals rfl
theorem Dk (s : List UInt8) (w : World) (hw : XV w) (hs : s.length <= 9223372036854775807) : Calls Tryz.prog 20 #[.string (ah s)] w (ql (af.jm s) w) := by
 have V := fun (w' : World) (hb : BW w w') => vH (af.BX s) w' (hw.below hb) rfl ⟨Nat.zero_le _, Nat.zero_le _, hs, Nat.zero_le _⟩
 rw [af.Qa] at V
 unfold af.jm
 by_cases h : af.jV s = 0
 ·simp only [if_pos h] at V ⊢
  refine yE func20 rfl results20 ntmps20 [] [] [.str s] w ?_
  repeat' (first | exact ⟨⟩ | refine yG ?_ ?_ | refine yB (.agg [.int .i64 2, .str [], .str [], .str s, .lit false, .int .i64 0, .int .i64 0, .int .i64 0, .any (.slice none 0 0)]) (fun _ => V) ?_ | intro _)
  all_goals rfl
 ·simp only [if_neg h] at V ⊢
  refine yE func20 rfl results20 ntmps20 [] [] [.str s] w ?_
  repeat' (first | exact ⟨⟩ | refine yG ?_ ?_ | refine yB (.agg [.int .i64 4, .str [], .str [], .str [], .lit false, .int .i64 2, .int .i64 0, .int .i64 0, .any (.slice none 0 0)]) (fun _ => V) ?_ | intro _)
  all_goals rfl
theorem EM (b : Bool) (w : World) : Calls Tryz.prog 23 #[.bool b] w (ql (af.AP b) w) := by
 refine yE func23 rfl results23 ntmps23 [] [] [.bool b] w ?_
 repeat' (first | exact ⟨⟩ | refine yG ?_ ?_ | intro _)
 all_goals rfl
end
section
open Go.RowKit
namespace Sym
theorem Sat.Zf {base : Nat} {w0 : Base} {β : Nat -> Nat} {a : Act} {w : World} {fr : List (Nat × SV)} {rows : List (Nat × Bool × aV)} {nx n i : Nat} {o : Bool} {r r' : aV} (hs : Sat base w0 ⟨fr, rows, nx, n⟩ β a w) (hi : get rows i = some (o, r)) (hr : gU w β (β i) r') (ho : r'.ok nx) :
  Sat base w0 ⟨fr, (i, o, r') :: rows, nx, n⟩ β a w := by
 obtain ⟨h1, h2, h3, h4⟩ := hs
 have old : ∀ j ow rw, get ((i, o, r') :: rows) j = some (ow, rw) -> ∃ r0, get rows j = some (ow, r0) := fun j ow rw hj => by
  rw [aQ] at hj
  by_cases e : i = j
  ·rw [if_pos e] at hj
   cases hj
   subst e
   exact ⟨_, hi⟩
  ·rw [if_neg e] at hj
   exact ⟨_, hj⟩
 refine ⟨h1, h2, h3, ⟨h4.below, h4.aU, fun j ow rw hj => ?_, h4.lt, fun j l r1 ol r2 hj hl hlj => ?_, h4.n0, h4.ext⟩⟩
 ·rw [aQ] at hj
  by_cases e : i = j
  ·rw [if_pos e] at hj
   cases hj
   subst e
   have := h4.row i o r hi
   exact ⟨hr, ho, this.2.2.1, this.2.2.2⟩
  ·rw [if_neg e] at hj
   exact h4.row j ow rw hj
 ·obtain ⟨p, hp⟩ := old _ _ _ hj
  obtain ⟨q, hq⟩ := old _ _ _ hl
  exact h4.inj j l p ol q hp hq hlj
theorem VA {C : Ctx} {d : Nat} {ty : TypeId} {pos : String} {after : Array Edge} {gd : Option (Nat × Bool)} {fr : List (Nat × SV)} {rows : List (Nat × Bool × aV)} {nx n : Nat} {K : St -> Prop}
  {x hi : Operand} {t e t' : TypeId} {i len j : Nat} {cs : List SV} {kd : IntKind} {q : Int} (xs : List Value) (hd : Nat.blt d n = true) (hx : ev fr x = some (.ptr i 0)) (hh : ev fr hi = some (.int kd q)) (hq : q = (j : Nat)) (ri : get rows i = some (true, .cells t' cs))
  (ht : C.P.underlying t = some (.array len e)) (hs : ∀ w, (sizeOf e).run C.P w = .ok 1 w) (hc : ∀ β, SV.aF β cs = xs) (hl : xs.length = len) (hm : len <= maxLen) (hj : j <= len)
  (h : ∀ g, K ⟨(d, .any (.slice (some ⟨g, 0, none⟩) j len)) :: fr, (i, true, .aK (dN t' 1 g len len xs)) :: rows, nx, n⟩) :
  sZ C ⟨some d, .slice t x none (some hi) none, ty, pos, after, gd⟩ ⟨fr, rows, nx, n⟩ K := by
 subst hq
 unfold sZ
 intro β a w zU next Q hn
 have e1 := (bC zU hx).1
 have e2 := (bC zU hh).1
 have q0 : (underlying t).run C.P w = .ok (.array len e) w := by simp [underlying, ht]
 have hj0 : ¬ ((len : Int) < (j : Int)) := by omega
 have hr : (execOp a.eval ⟨some d, .slice t x none (some hi) none, ty, pos, after, gd⟩).run C.P w = .ok (.value (.slice (some ⟨β i, 0, none⟩) j len)) w := by
  simp [execOp, e1, e2, SV.den, Instr.sliceAt, Instr.sureAddr, q0, hs, Instr.sliceBounds, Instr.sliceBound, asIntOf, hj0, add_zero]
  intro hlt; exfalso; omega
 unfold Oper.wp
 rw [hr]
 obtain ⟨k1, k2, k3, k4⟩ := zU.mem.row i true _ ri
 have hrow : w.heap[β i]? = some (.cells xs.toArray t' (0, 0)) := by
  have := k1
  simp only [gU] at this
  rw [hc] at this
  exact this
 have hs2 := zU.Zf (r' := .aK (dN t' 1 (β i) len len xs)) ri ⟨zU.mem.lt i k3, rfl, xs.toArray, hrow, Nat.le_refl _, hm, by simp [hl], by simp [List.take_of_length_le, hl], by simp [hl]⟩ trivial
 exact hn _ β _ w (h (β i)) (hs2.put (by simpa [Nat.blt_eq] using hd) rfl)
def wo {α : Type} : Nat -> List α -> List (Nat × α)
 | _, [] => []
 | p, v :: r => (p, v) :: wo (p + 1) r
theorem Ih : ∀ (vs pre post : List Value), (∀ v ∈ vs, v.cells = #[v]) -> post.length = vs.length -> Instr.fill (fun i => some (i, 1)) (pre ++ post).toArray (wo pre.length vs) = some (pre ++ vs).toArray
 | [], pre, post, _, hl => by
   have : post = [] := List.eq_nil_of_length_eq_zero hl
   subst this; rfl
 | v :: vs, pre, post, h, hl => by
   cases post with
   | nil => cases hl
   | cons q post =>
     have hv := h v (by simp)
     have ih := Ih vs (pre ++ [v]) post (fun u hu => h u (by simp [hu])) (by simpa using hl)
     have hlen : (pre ++ [v]).length = pre.length + 1 := by simp
     rw [hlen] at ih
     have hA : ((pre ++ q :: post).toArray).setIfInBounds (pre.length + 0) v = (pre ++ [v] ++ post).toArray := by
      apply Array.toList_inj.1
      simp
     show (match (some (pre.length, 1) : Option (Nat × Nat)) with
      | none => none
      | some (off, size) => if v.cells.size ≠ size || off + v.cells.size > (pre ++ q :: post).toArray.size then none else Instr.fill (fun i => some (i, 1)) (v.cells.zipIdx.foldl (fun cs (c, j) => cs.setIfInBounds (off + j) c) (pre ++ q :: post).toArray) (wo (pre.length + 1) vs)) = _
     rw [hv]
     have hc : ¬ ((#[v].size ≠ 1 || decide (pre.length + #[v].size > (pre ++ q :: post).toArray.size)) = true) := by simp
     have hz : (#[v].zipIdx.foldl (fun cs (x : Value × Nat) => cs.setIfInBounds (pre.length + x.2) x.1) (pre ++ q :: post).toArray) = (pre ++ [v] ++ post).toArray := hA
     dsimp only
     rw [if_neg hc]
     have hz' : (#[v].zipIdx.foldl (fun cs x => match x with | (c, j) => cs.setIfInBounds (pre.length + j) c) (pre ++ q :: post).toArray) = (pre ++ [v] ++ post).toArray := hz
     rw [hz', ih]
     simp
theorem DW {α β : Type} (f : α -> β) : ∀ (p : Nat) (l : List α), (wo p l).map (fun (x : Nat × α) => (x.1, f x.2)) = wo p (l.map f)
 | _, [] => rfl
 | p, v :: r => by simp only [wo, List.map_cons, DW f (p + 1) r]
theorem nP {C : Ctx} {G : eU} {ps : List (Nat × Operand)} {vs : List SV} {t e : TypeId} {len : Nat} {z : Value} (hp : ps = wo 0 (ps.map (·.2))) (ht : C.P.underlying t = some (.array len e)) (hs : ∀ w, (sizeOf e).run C.P w = .ok 1 w) (hz : ∀ w, (zeroValue t).run C.P w = .ok z w) (hc : z.cells.size = vs.length) (h1 : ∀ β, ∀ u ∈ SV.aF β vs, u.cells = #[u]) :
  dH C G (.build t ⟨ps⟩) vs (.agg vs) := by
 unfold dH
 intro ρ β w dst ty pos after g _ _ h
 have h : (ps.map (·.2)).map ρ = SV.aF β vs := by
  have h : ps.map (fun x => ρ x.2) = SV.aF β vs \/ (ps.map (·.2)).map ρ = SV.aF β vs := .inr h
  exact h.elim (fun h => by rw [List.map_map]; exact h) id
 have q : (underlying t).run C.P w = .ok (.array len e) w := by simp [underlying, ht]
 have e1 : (((⟨ps⟩ : Array (Nat × Operand)).map fun (i, x) => (i, ρ x)).toList) = wo 0 (SV.aF β vs) := by
  rw [<- h, <- DW, <- hp]
  simp
 have f1 : Instr.fill (fun i => some (i * 1, 1)) z.cells (wo 0 (SV.aF β vs)) = some (SV.aF β vs).toArray := by
  have := Ih (SV.aF β vs) [] z.cells.toList (h1 β) (by rw [SV.fV]; simpa using hc)
  simpa using this
 have hb : (Instr.build t ((⟨ps⟩ : Array (Nat × Operand)).map fun (i, x) => (i, ρ x))).run C.P w = .ok (.agg (SV.aF β vs).toArray) w := by
  unfold Instr.build
  rw [Sem.run_bind, hz]
  simp only [Result.andThen_ok, Sem.run_bind, q, hs, e1, f1]
  rfl
 simp only [execOp, Sem.run_bind, hb]
 simp [SV.den]
def Qo : List SV -> Bool
 | [] => true
 | .int _ _ :: r => Qo r
 | _ => false
theorem vO : ∀ {vs : List SV}, Qo vs = true -> ∀ β, ∀ u ∈ SV.aF β vs, u.cells = #[u]
 | [], _, _, u, h => by cases h
 | .int k n :: r, h, β, u, hu => by
   rcases List.mem_cons.1 hu with rfl | hu
   ·rfl
   ·exact vO (vs := r) h β u hu
theorem O5 {C : Ctx} {d : Nat} {ty : TypeId} {pos : String} {after : Array Edge} {gd : Option (Nat × Bool)} {fr : List (Nat × SV)} {rows : List (Nat × Bool × aV)} {nx n : Nat} {K : St -> Prop}
  {x : Operand} {t t' : TypeId} {i off : Nat} {o : Bool} {cs : List SV} (v : SV) (hd : Nat.blt d n = true) (hag : ∀ w, (isAgg t).run C.P w = .ok false w)
  (hx : ev fr x = some (.ptr i off)) (ri : get rows i = some (o, .cells t' cs)) (hv : cs[off]? = some v)
  (h : K ⟨(d, v) :: fr, rows, nx, n⟩) : sZ C ⟨some d, .load t x, ty, pos, after, gd⟩ ⟨fr, rows, nx, n⟩ K := by
 unfold sZ
 intro β a w hs next Q hn
 obtain ⟨k1, k2, k3, k4⟩ := hs.mem.row i o _ ri
 have k1 : Row w (β i) t' (SV.aF β cs).toArray := k1
 have e1 := (bC hs hx).1
 have hc : w.cell? ⟨β i, off, none⟩ = some (v.den β) := by
  rw [k1.cell]
  have := SV.kY β cs off
  rw [hv] at this
  simpa using this
 have hrun : (execOp a.eval ⟨some d, .load t x, ty, pos, after, gd⟩).run C.P w = .ok (.value (v.den β)) w := by
  simp [execOp, Instr.loadAt, Instr.sureAddr, e1, SV.den, loadVar, hag, hc]
 unfold Oper.wp
 rw [hrun]
 exact hn _ β _ w h (hs.put (by simpa [Nat.blt_eq] using hd) (SV.wK cs off v k2 hv))
theorem zQ {C : Ctx} {G : eU} {x y : Operand} {t e : TypeId} {i off len j sz : Nat} {q : Int} (hq : q = (j : Nat)) (ht : C.P.underlying t = some (.array len e)) (hs : ∀ w, (sizeOf e).run C.P w = .ok sz w) (hj : j < len) :
  dH C G (.indexAddr t x y) [.ptr i off, .int .i64 q] (.ptr i (off + j * sz)) := by
 subst hq; exact MJ ht hs hj
end Sym
end
section
open Go.RowKit
namespace Sym
theorem J8 {C : Ctx} {G : eU} {x : Operand} {t u e : TypeId} {g cap n bs : Nat} (i : Nat) (l : List UInt8) (hs : C.P.underlying t = some (.slice e)) (he : C.P.underlying e = some (.int .u8)) (hd : C.P.underlying u = some .string)
  (ri : G i = some (bV bs (some ⟨g, 0, none⟩) (dJ l))) (hn : n = l.length) : dH C G (.convert t u x) [.any (.slice (some ⟨g, 0, none⟩) n cap)] (.str l) := by
 unfold dH
 intro ρ β w dst ty pos after gd _ hG h
 have e1 : ρ x = .slice (some ⟨g, 0, none⟩) n cap := by simpa [jg, SV.aF, SV.den] using h
 obtain ⟨hb, ho⟩ := hG i _ ri
 have hc := bV.at ho hb
 subst hn
 have hr := run_convert_bytes_back (P := C.P) w t u e ⟨g, 0, none⟩ cap l hs he hd (fun j hj => by
  obtain ⟨ad, h1, -, h3⟩ := hc j (.int .u8 ((l[j]'hj).toNat : Int)) (by simp [dJ, hj])
  cases h1
  rw [h3])
 simp [execOp, e1, hr, SV.den, ah]
theorem ML {C : Ctx} {G : eU} {x y : Operand} {t u : TypeId} {k k' : IntKind} {a q : Int} (n : Nat) (c : Int) (hq : q = (n : Nat)) (hc : a * 2 ^ n = c) (hn : n <= k.bits) (hw : uu k c) : dH C G (.binOp .shl t x y u) [.int k a, .int k' q] (.int k c) := by
 subst hc; subst hq; exact Zk n hn hw
end Sym
end
end Go.Proofs.YtdkhkfdenlabaaaGreatDoor
