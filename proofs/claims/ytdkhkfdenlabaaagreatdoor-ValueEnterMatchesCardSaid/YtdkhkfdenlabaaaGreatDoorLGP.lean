/- Values, the program: errors of values. Values, the program: errors of arrays; every value checked. Values, the program: the makers of values; values held again Values, the program: texts cut and divided; whole numbers; m Values, the program: mixed numbers. The shelf's contracts: those of the first text. Values, the program: so many digits as a number. -/
import Derived.Test.YtdkhkfdenlabaaaGreatDoorLGG
import Derived.Test.YtdkhkfdenlabaaaGreatDoorLGO
import Derived.Test.YtdkhkfdenlabaaaGreatDoorLGN
import Derived.Lib.CountLaws
import Derived.Lib.SplitLaws
import Derived.Test.YtdkhkfdenlabaaaGreatDoorLGH
set_option linter.unusedSimpArgs false
set_option linter.unusedVariables false
set_option maxRecDepth 100000
set_option maxHeartbeats 64000000
namespace Go.Proofs.YtdkhkfdenlabaaaGreatDoor
open Go.RowKit
open Sym
attribute [local irreducible] Calls Sym.AggEq ExP.nd ExP.dig ExP.upd ExP.writeF ExP.writeE
abbrev vtV (t : VaP.VT) (a : Option Addr) (cap : Nat) : Value := .agg #[.int .i64 t.kind, .string (bstr t.num.1), .string (bstr t.num.2), .string (bstr t.text), .bool t.on, .int .i64 t.code, .int .i64 t.rows, .int .i64 t.cols, .slice a t.items.length cap]
def VaP.zBad (t : VaP.VT) : Prop := (t.kind ≠ 1 ∧ ¬ (t.num.1 = [] ∧ t.num.2 = [])) ∨ (t.kind ≠ 2 ∧ t.text ≠ []) ∨ (t.kind ≠ 3 ∧ t.on = true) ∨ (t.kind ≠ 4 ∧ t.code ≠ 0) ∨ (t.kind ≠ 5 ∧ (t.rows ≠ 0 ∨ t.cols ≠ 0 ∨ t.items.length ≠ 0))
theorem fracAggF {a b c d : List UInt8} (h : ¬ (a = c ∧ b = d)) : AggEq Tryz.prog 25 [.str a, .str b] [.str c, .str d] false := by
 have := fracAgg a b c d
 have e : (a == c && b == d) = false := by
  cases hh : (a == c && b == d) with
  | false => rfl
  | true => simp only [Bool.and_eq_true, beq_iff_eq] at hh; exact absurd hh h
 rwa [e] at this
theorem zeros_any (t : VaP.VT) (a : Option Addr) (cap : Nat) (w : World) (Z : Int) (hB : VaP.zBad t → Z = 4) (hG : ¬ VaP.zBad t → Z = 0) : QC 69 #[vtV t a cap] w (.int .i64 Z) := by
 obtain ⟨k, ⟨n1, n2⟩, tx, on, cd, rw', cl, its⟩ := t
 have hn : (its.length : Int) = 0 ∨ 0 < (its.length : Int) := by omega
 unfold VaP.zBad at hB hG
 dsimp only at hB hG ⊢
 unfold vtV
 dsimp only
 generalize its.length = n at *
 by_cases hf : n1 = [] ∧ n2 = []
 ·obtain ⟨rfl, rfl⟩ := hf
  refine yE Tryz.func69 rfl Tryz.results69 Tryz.ntmps69 [] [] [.agg [.int .i64 k, .str [], .str [], .str tx, .bool on, .int .i64 cd, .int .i64 rw', .int .i64 cl, .any (.slice a n cap)]] w ?_
  repeat' (first | refine yX ?_ | (apply And.intro <;> intro _) | apply bothI | refine retB fun β => ?_ | intro βe | refine yO (x_len Tryz.underlying26) ?_ | ((with_reducible show ∃ _, _); first | (refine ⟨true, fracAggT _ _, ?_⟩)) | exact trivial)
  all_goals first | (rw [hB (by clear hB hG; simp_all; try omega)]; rfl) | (rw [hG (by clear hB hG; simp_all; try omega)]; rfl) | (exfalso; omega) | trace_state
 ·refine yE Tryz.func69 rfl Tryz.results69 Tryz.ntmps69 [] [] [.agg [.int .i64 k, .str n1, .str n2, .str tx, .bool on, .int .i64 cd, .int .i64 rw', .int .i64 cl, .any (.slice a n cap)]] w ?_
  repeat' (first | refine yX ?_ | (apply And.intro <;> intro _) | apply bothI | refine retB fun β => ?_ | intro βe | refine yO (x_len Tryz.underlying26) ?_ | ((with_reducible show ∃ _, _); first | (refine ⟨false, fracAggF hf, ?_⟩)) | exact trivial)
  all_goals first | (rw [hB (by clear hB hG; simp_all; try omega)]; rfl) | (rw [hG (by clear hB hG; simp_all; try omega)]; rfl) | (exfalso; omega) | trace_state
theorem vErr0_range {t : VaP.VT} (h : t.kind < 0 ∨ 5 < t.kind) : VaP.vErr0 t = 8 := if_pos h
theorem zBad_iff (t : VaP.VT) : VaP.zBad t ↔ ((t.kind ≠ 1 ∧ t.num ≠ ([], [])) ∨ (t.kind ≠ 2 ∧ t.text ≠ []) ∨ (t.kind ≠ 3 ∧ t.on = true) ∨ (t.kind ≠ 4 ∧ t.code ≠ 0) ∨ (t.kind ≠ 5 ∧ (t.rows ≠ 0 ∨ t.cols ≠ 0 ∨ t.items ≠ []))) := by
 have h1 : (t.num.1 = [] ∧ t.num.2 = []) ↔ t.num = ([], []) := ⟨fun h => Prod.ext h.1 h.2, fun h => by rw [h]; exact ⟨rfl, rfl⟩⟩
 have h2 : t.items.length ≠ 0 ↔ t.items ≠ [] := by rw [Ne, List.length_eq_zero_iff]
 unfold VaP.zBad
 rw [h1, h2]
theorem vErr0_bad {t : VaP.VT} (h : ¬ (t.kind < 0 ∨ 5 < t.kind)) (hb : VaP.zBad t) : VaP.vErr0 t = 4 := by
 unfold VaP.vErr0
 rw [if_neg h, if_pos ((zBad_iff t).1 hb)]
theorem vErr0_ok {t : VaP.VT} (h : ¬ (t.kind < 0 ∨ 5 < t.kind)) (hb : ¬ VaP.zBad t) : VaP.vErr0 t = if t.kind = 1 then ExP.readE t.num else if t.kind = 2 then VaP.txtE t.text else if t.kind = 4 ∧ (t.code < 1 ∨ 8 < t.code) then 2 else 0 := by
 unfold VaP.vErr0
 rw [if_neg h, if_neg (fun h => hb ((zBad_iff t).2 h))]
structure VaP.VT.Fit (t : VaP.VT) : Prop where
 n1 : t.num.1.length ≤ 9223372036854775807
 n2 : t.num.2.length ≤ 9223372036854775807
 tx : t.text.length ≤ 9223372036854775807
 it : t.items.length ≤ 9223372036854775807
section
variable (t : VaP.VT) (a : Option Addr) (cap : Nat) (w : World) (hw : XV w) (hf : t.Fit)
include hw hf
theorem check_bad (h : (t.kind < 0 ∨ 5 < t.kind) ∨ VaP.zBad t) : QC 13 #[vtV t a cap] w (.int .i64 (VaP.vErr0 t)) := by
 have _hw := hw
 by_cases hr : t.kind < 0 ∨ 5 < t.kind
 ·rw [vErr0_range hr]
  obtain ⟨k, ⟨n1, n2⟩, tx, on, cd, rw', cl, its⟩ := t
  dsimp only at *
  refine yE Tryz.func13 rfl Tryz.results13 Tryz.ntmps13 [] [] [.agg [.int .i64 k, .str n1, .str n2, .str tx, .bool on, .int .i64 cd, .int .i64 rw', .int .i64 cl, .any (.slice a its.length cap)]] w ?_
  repeat' (first | refine yX ?_ | (apply And.intro <;> intro _) | apply bothI | refine retB fun β => ?_ | intro βe | exact trivial)
  all_goals first | rfl | (exfalso; omega)
 ·have hz := h.resolve_left hr
  rw [vErr0_bad hr hz]
  have Z := fun (w' : World) => zeros_any t a cap w' 4 (fun _ => rfl) (fun h => absurd hz h)
  clear hz h
  obtain ⟨k, ⟨n1, n2⟩, tx, on, cd, rw', cl, its⟩ := t
  unfold vtV at *
  dsimp only at *
  refine yE Tryz.func13 rfl Tryz.results13 Tryz.ntmps13 [] [] [.agg [.int .i64 k, .str n1, .str n2, .str tx, .bool on, .int .i64 cd, .int .i64 rw', .int .i64 cl, .any (.slice a its.length cap)]] w ?_
  repeat' (first | refine yX ?_ | (apply And.intro <;> intro _) | apply bothI | refine retB fun β => ?_ | intro βe | refine yK (.int .i64 4) (fun β w hm => Z w) ?_ | exact trivial)
  all_goals first | rfl | (exfalso; omega)
theorem check_sc (h5 : t.kind ≠ 5) : QC 13 #[vtV t a cap] w (.int .i64 (VaP.vErr0 t)) := by
 by_cases hb : (t.kind < 0 ∨ 5 < t.kind) ∨ VaP.zBad t
 ·exact check_bad t a cap w hw hf hb
 ·simp only [not_or] at hb
  rw [vErr0_ok (by simpa using hb.1) hb.2]
  have Z := fun (w' : World) => zeros_any t a cap w' 0 (fun h => absurd h hb.2) (fun _ => rfl)
  have N := fun (w' : World) (h : BW w w') => check_any t.num w' (hw.below h).pos hf.n1 hf.n2
  have T := fun (w' : World) (h : BW w w') => vtext_any t.text w' (hw.below h) hf.tx
  have F := fun (w' : World) (h : BW w w') => ftext_any t.code w' (hw.below h)
  have hF := ftextI_nil t.code
  obtain ⟨hb1, hb2⟩ := hb
  clear hb2
  obtain ⟨k, ⟨n1, n2⟩, tx, on, cd, rw', cl, its⟩ := t
  unfold vtV at *
  dsimp only at *
  generalize ExP.readE (n1, n2) = NE at *
  generalize VaP.txtE tx = TE at *
  generalize VaP.ftextI cd = FT at *
  refine yE Tryz.func13 rfl Tryz.results13 Tryz.ntmps13 [] [] [.agg [.int .i64 k, .str n1, .str n2, .str tx, .bool on, .int .i64 cd, .int .i64 rw', .int .i64 cl, .any (.slice a its.length cap)]] w ?_
  repeat' (first | refine yX ?_ | (apply And.intro <;> intro _) | apply bothI | refine retB fun β => ?_ | intro βe | refine yK (.int .i64 0) (fun β w hm => Z w) ?_ | refine yK (.int .i64 NE) (fun β w hm => N w hm.below) ?_ | refine yK (.int .i64 TE) (fun β w hm => T w hm.below) ?_ | refine yK (.str FT) (fun β w hm => F w hm.below) ?_ | exact trivial)
  all_goals first | (exfalso; omega) | (rw [if_pos (by assumption : k = 1)]; rfl) | (rw [if_neg (by assumption : ¬ k = 1), if_pos (by assumption : k = 2)]; rfl) | (rw [if_neg (by assumption : ¬ k = 1), if_neg (by assumption : ¬ k = 2), if_pos ⟨(by assumption : k = 4), hF.1 (by assumption)⟩]; rfl) | (rw [if_neg (by assumption : ¬ k = 1), if_neg (by assumption : ¬ k = 2), if_neg (fun h => (by assumption : ¬ FT = []) (hF.2 h.2))]; rfl) | (rw [if_neg (by assumption : ¬ k = 1), if_neg (by assumption : ¬ k = 2), if_neg (fun h => (by assumption : ¬ k = 4) h.1)]; rfl) | trace_state
end
def itCells (x : VaP.VT) (p : Option Addr × Nat) : List Value := [.int .i64 x.kind, .string (bstr x.num.1), .string (bstr x.num.2), .string (bstr x.text), .bool x.on, .int .i64 x.code, .int .i64 x.rows, .int .i64 x.cols, .slice p.1 x.items.length p.2]
inductive VIn (w : World) : VaP.VT → Option Addr → Nat → Prop where
 | mk (t : VaP.VT) (a : Option Addr) (cap : Nat) (ps : Nat → Option Addr × Nat) (hf : t.Fit) (hc : t.items.length ≤ cap) (hn : a = none → cap = 0)
   (hi : ∀ i x, t.items[i]? = some x → VIn w x (ps i).1 (ps i).2)
   (hs : ∀ i x, t.items[i]? = some x → ∃ ad, a = some ad ∧ ad.block < w.heap.size ∧ ∀ j v, (itCells x (ps i))[j]? = some v → w.cell? (ad.add (i * 9 + j)) = some v) : VIn w t a cap
theorem VIn.fit {w : World} {t : VaP.VT} {a : Option Addr} {cap : Nat} (h : VIn w t a cap) : t.Fit := by cases h; assumption
theorem VIn.lift {w w' : World} {t : VaP.VT} {a : Option Addr} {cap : Nat} (h : VIn w t a cap) (hb : BW w w') : VIn w' t a cap := by
 induction h with
 | mk t a cap ps hf hc hn hi hs ih =>
   refine .mk t a cap ps hf hc hn (fun i x hx => ih i x hx) (fun i x hx => ?_)
   obtain ⟨ad, h1, h2, h3⟩ := hs i x hx
   exact ⟨ad, h1, Nat.lt_of_lt_of_le h2 hb.size, fun j v hv => cell_below (h3 j v hv) hb⟩
def VaP.arrE (t : VaP.VT) : Int := if t.rows < 1 ∨ 100000 < t.rows ∨ t.cols < 1 ∨ 100000 < t.cols then 2 else if 100000 < t.rows * t.cols then 3 else if (t.items.length : Int) ≠ t.rows * t.cols then 4 else VaP.itsE t.items
theorem itsE_split : ∀ (l : List VaP.VT) (i : Nat), VaP.itsE (l.take i) = 0 → VaP.itsE l = VaP.itsE (l.drop i)
 | [], i, _ => by simp
 | x :: l, 0, _ => rfl
 | x :: l, i + 1, h => by
   simp only [List.take_succ_cons, VaP.itsE] at h
   by_cases hx : VaP.itE x = 0
   ·rw [if_neg (fun h => h hx)] at h
    rw [List.drop_succ_cons, ← itsE_split l i h, VaP.itsE, if_neg (fun h => h hx)]
   ·rw [if_pos hx] at h; exact absurd h hx
theorem itsE_at {l : List VaP.VT} {i : Nat} {x : VaP.VT} (h : VaP.itsE (l.take i) = 0) (hx : l[i]? = some x) : VaP.itsE l = if VaP.itE x ≠ 0 then VaP.itE x else VaP.itsE (l.drop (i + 1)) := by
 obtain ⟨hlt, he⟩ := List.getElem?_eq_some_iff.1 hx
 rw [itsE_split l i h, List.drop_eq_getElem_cons hlt, he, VaP.itsE]
theorem itsE_next {l : List VaP.VT} {i : Nat} {x : VaP.VT} (h : VaP.itsE (l.take i) = 0) (hx : l[i]? = some x) (hz : VaP.itE x = 0) : VaP.itsE (l.take (i + 1)) = 0 := by
 rw [VaP.itsE_all] at h ⊢
 intro y hy
 obtain ⟨hlt, he⟩ := List.getElem?_eq_some_iff.1 hx
 rw [List.take_succ_eq_append_getElem hlt, he] at hy
 simp only [List.mem_append, List.mem_singleton] at hy
 exact hy.elim (h y) (fun e => by rw [e]; exact hz)
theorem array_any (t : VaP.VT) (a : Option Addr) (cap : Nat) (w : World) (hw : XV w) (ht : VIn w t a cap) : QC 71 #[vtV t a cap] w (.int .i64 (VaP.arrE t)) := by
 cases ht with
 | mk t a cap ps hf hc hn hi hs =>
 have hE : VaP.arrE t = if t.rows < 1 ∨ 100000 < t.rows ∨ t.cols < 1 ∨ 100000 < t.cols then 2 else if 100000 < t.rows * t.cols then 3 else if (t.items.length : Int) ≠ t.rows * t.cols then 4 else VaP.itsE t.items := rfl
 have C := fun (i : Nat) (x : VaP.VT) (hx : t.items[i]? = some x) (h5 : x.kind ≠ 5) (w' : World) (h : BW w w') => check_sc x (ps i).1 (ps i).2 w' (hw.below h) (hi i x hx).fit h5
 clear hf hn hi
 obtain ⟨k, ⟨n1, n2⟩, tx, on, cd, R, L, its⟩ := t
 unfold vtV at *
 dsimp only at *
 have hmul : ¬ (R < 1 ∨ 100000 < R ∨ L < 1 ∨ 100000 < L) → 1 ≤ R * L ∧ R * L ≤ 10000000000 := fun h => by
  have h1 : 1 ≤ R := by omega
  have h2 : 1 ≤ L := by omega
  have h3 : R * L ≤ 100000 * 100000 := Int.mul_le_mul (by omega) (by omega) (by omega) (by omega)
  have h4 : 1 * 1 ≤ R * L := Int.mul_le_mul h1 h2 (by omega) (by omega)
  omega
 generalize hn : its.length = n at *
 by_cases hb : R < 1 ∨ 100000 < R ∨ L < 1 ∨ 100000 < L
 ·rw [hE, if_pos hb]
  clear hmul
  refine yE Tryz.func71 rfl Tryz.results71 Tryz.ntmps71 [] [] [.agg [.int .i64 k, .str n1, .str n2, .str tx, .bool on, .int .i64 cd, .int .i64 R, .int .i64 L, .any (.slice a n cap)]] w ?_
  repeat' (first | refine yX ?_ | (apply And.intro <;> intro _) | apply bothI | refine retB fun β => ?_ | intro βe | exact trivial)
  all_goals first | rfl | (exfalso; omega)
 ·rw [if_neg hb] at hE
  have hm := hmul hb
  clear hmul
  refine yE Tryz.func71 rfl Tryz.results71 Tryz.ntmps71 [] [] [.agg [.int .i64 k, .str n1, .str n2, .str tx, .bool on, .int .i64 cd, .int .i64 R, .int .i64 L, .any (.slice a n cap)]] w ?_
  repeat' (first | refine yX ?_ | (apply And.intro <;> intro _) | apply bothI | refine retB fun β => ?_ | intro βe | refine yO (x_len Tryz.underlying26) ?_ | exact trivial)
  all_goals first | (exfalso; omega) | (rw [hE, if_pos (by omega)]; rfl) | (rw [hE, if_neg (by omega), if_pos (by omega)]; rfl) | skip
  rw [if_neg (by omega), if_neg (by omega)] at hE
  rw [hE]
  clear hE
  refine yZ (T := {i : Nat // i ≤ n ∧ VaP.itsE (its.take i) = 0}) (fun t => ⟨[(40, .any (.slice a n cap)), (41, .int .i64 (n : Nat)), (42, .int .i64 (t.1 : Nat))], [], 0, 55⟩) (fun t => n - t.1) ⟨0, Nat.zero_le _, by simp [VaP.itsE]⟩ [] [] (fun t I hI => ?_)
  obtain ⟨i, hi, hz⟩ := t
  dsimp only
  by_cases hlt : i < n
  ·obtain ⟨x, hx⟩ : ∃ x, its[i]? = some x := ⟨its[i]'(by omega), List.getElem?_eq_getElem (by omega)⟩
   obtain ⟨ad, rfl, hblk, hcell⟩ := hs i x hx
   have hat := itsE_at hz hx
   have hnx := itsE_next hz hx
   have Cx := C i x hx
   have hiE : VaP.itE x = if x.kind = 5 then 8 else VaP.vErr0 x := rfl
   have hld : ∀ w', BW w w' → ∀ (β : Nat → Nat) (j : Nat) (v : Value), (SV.dens β [.int .i64 x.kind, .str x.num.1, .str x.num.2, .str x.text, .bool x.on, .int .i64 x.code, .int .i64 x.rows, .int .i64 x.cols, .any (.slice (ps i).1 x.items.length (ps i).2)])[j]? = some v → w'.cell? ((ad.add (i * 9)).add j) = some v := fun w' hb β j v hv => by
    rw [Go.Deep.add_add]
    exact cell_below (hcell j v hv) hb
   unfold vtV at Cx
   clear hs C hcell hx hb hm
   generalize (ps i).1 = p1 at *
   generalize (ps i).2 = p2 at *
   generalize VaP.vErr0 x = XE at *
   generalize VaP.itE x = IE at *
   obtain ⟨xk, ⟨m1, m2⟩, xt, xo, xc, xr, xl, xi⟩ := x
   dsimp only at *
   repeat' (first | refine yX ?_ | (apply And.intro <;> intro _) | apply bothI | refine retB fun β => ?_ | intro βe | refine yK (.int .i64 XE) (fun β w hm => Cx (by assumption) w hm.below) ?_ | ((with_reducible show ∃ _ : SV, _); first | refine yO (x_index (j := i) rfl Tryz.underlying26 (fun w => Tryz.sizeOf28 w) (by omega)) ?_ | (refine ⟨_, ?ok, x_loadAgg (vs := [.int .i64 xk, .str m1, .str m2, .str xt, .bool xo, .int .i64 xc, .int .i64 xr, .int .i64 xl, .any (.slice p1 xi.length p2)]) (fun w => Tryz.isAgg28 w) (fun w => Tryz.sizeOf28 w) hld, ?_⟩; (case ok => exact fun _ _ => ⟨trivial, trivial, trivial, trivial, trivial, trivial, trivial, trivial, rfl, trivial⟩))) | exact trivial)
   all_goals first | (exfalso; omega) | (have e : IE = 8 := by { rw [hiE, if_pos (by assumption)] }; rw [hat, e, if_pos (by decide)]; rfl) | (have e : IE = XE := by { rw [hiE, if_neg (by assumption)] }; rw [hat, e, if_pos (by assumption)]; rfl) | (refine hI _ ⟨i + 1, by omega, hnx (by rw [hiE, if_neg (by assumption)]; omega)⟩ (by dsimp only; omega) yW; done) | trace_state
  ·have e : i = n := by omega
   subst e
   rw [← hn, List.take_length] at hz
   rw [hz]
   repeat' (first | refine yX ?_ | (apply And.intro <;> intro _) | apply bothI | refine retB fun β => ?_ | intro βe | exact trivial)
   all_goals first | rfl | (exfalso; omega)
theorem vcheck_any (t : VaP.VT) (a : Option Addr) (cap : Nat) (w : World) (hw : XV w) (ht : VIn w t a cap) : QC 13 #[vtV t a cap] w (.int .i64 (VaP.vErr t)) := by
 have hv : VaP.vErr t = if VaP.vErr0 t ≠ 0 ∨ t.kind ≠ 5 then VaP.vErr0 t else VaP.arrE t := rfl
 by_cases h5 : t.kind = 5
 ·by_cases hb : (t.kind < 0 ∨ 5 < t.kind) ∨ VaP.zBad t
  ·have h0 : VaP.vErr0 t ≠ 0 := by
    rcases hb with h | h
    ·omega
    ·rw [vErr0_bad (by omega) h]; omega
   rw [hv, if_pos (.inl h0)]
   exact check_bad t a cap w hw ht.fit hb
  ·simp only [not_or] at hb
   have h0 : VaP.vErr0 t = 0 := by
    rw [vErr0_ok (by omega) hb.2, if_neg (by omega), if_neg (by omega), if_neg (by omega)]
   rw [hv, if_neg (by omega)]
   have Z := fun (w' : World) => zeros_any t a cap w' 0 (fun h => absurd h hb.2) (fun _ => rfl)
   have A := fun (w' : World) (h : BW w w') => array_any t a cap w' (hw.below h) (ht.lift h)
   clear hv h0 hb ht
   generalize VaP.arrE t = AE at *
   obtain ⟨k, ⟨n1, n2⟩, tx, on, cd, rw', cl, its⟩ := t
   unfold vtV at *
   dsimp only at *
   subst h5
   refine yE Tryz.func13 rfl Tryz.results13 Tryz.ntmps13 [] [] [.agg [.int .i64 5, .str n1, .str n2, .str tx, .bool on, .int .i64 cd, .int .i64 rw', .int .i64 cl, .any (.slice a its.length cap)]] w ?_
   repeat' (first | refine yX ?_ | (apply And.intro <;> intro _) | apply bothI | refine retB fun β => ?_ | intro βe | refine yK (.int .i64 0) (fun β w hm => Z w) ?_ | refine yK (.int .i64 AE) (fun β w hm => A w hm.below) ?_ | exact trivial)
   all_goals first | (exfalso; omega) | rfl | trace_state
 ·rw [hv, if_pos (.inr h5)]
  exact check_sc t a cap w hw ht.fit h5
abbrev IsV (t : VaP.VT) (w : World) (e : Ending) (w' : World) : Prop := e = .returned (vtV t none 0) ∧ BW w w'
theorem valid_good (t : VaP.VT) (a : Option Addr) (cap : Nat) (w : World) (hw : XV w) (ht : VIn w t a cap) (h : VaP.vErr t = 0) : QC 76 #[vtV t a cap] w (vtV t a cap) := by
 have C := fun (w' : World) (hb : BW w w') => vcheck_any t a cap w' (hw.below hb) (ht.lift hb)
 rw [h] at C
 clear ht h
 obtain ⟨k, ⟨n1, n2⟩, tx, on, cd, rw', cl, its⟩ := t
 unfold vtV at *
 dsimp only at *
 refine yE Tryz.func76 rfl Tryz.results76 Tryz.ntmps76 [] [] [.agg [.int .i64 k, .str n1, .str n2, .str tx, .bool on, .int .i64 cd, .int .i64 rw', .int .i64 cl, .any (.slice a its.length cap)]] w ?_
 repeat' (first | refine yX ?_ | (apply And.intro <;> intro _) | apply bothI | refine retB fun β => ?_ | intro βe | refine yK (.int .i64 0) (fun β w hm => C w hm.below) ?_ | exact trivial)
 all_goals first | (exfalso; omega) | rfl
theorem valid_bad (t : VaP.VT) (a : Option Addr) (cap : Nat) (w : World) (hw : XV w) (ht : VIn w t a cap) (h : VaP.vErr t ≠ 0) : Calls Tryz.prog 76 #[vtV t a cap] w (IsV (VaP.faultV 2) w) := by
 have C := fun (w' : World) (hb : BW w w') => vcheck_any t a cap w' (hw.below hb) (ht.lift hb)
 generalize VaP.vErr t = E at *
 clear ht
 obtain ⟨k, ⟨n1, n2⟩, tx, on, cd, rw', cl, its⟩ := t
 unfold vtV at *
 dsimp only at *
 refine yE Tryz.func76 rfl Tryz.results76 Tryz.ntmps76 [] [] [.agg [.int .i64 k, .str n1, .str n2, .str tx, .bool on, .int .i64 cd, .int .i64 rw', .int .i64 cl, .any (.slice a its.length cap)]] w ?_
 repeat' (first | refine yX ?_ | (apply And.intro <;> intro _) | apply bothI | refine retB fun β => ?_ | intro βe | refine yK (.int .i64 E) (fun β w hm => C w hm.below) ?_ | exact trivial)
 all_goals first | (exfalso; omega) | rfl
theorem VIn.flat {w : World} {t : VaP.VT} (h : t.items = []) (hf : t.Fit) : VIn w t none 0 :=
 .mk t none 0 (fun _ => (none, 0)) hf (by rw [h]; exact Nat.le_refl _) (fun _ => rfl) (fun i x hx => by rw [h] at hx; simp at hx) (fun i x hx => by rw [h] at hx; simp at hx)
theorem valid_flat (t : VaP.VT) (w : World) (hw : XV w) (hi : t.items = []) (hf : t.Fit) : Calls Tryz.prog 76 #[vtV t none 0] w (IsV (if VaP.vErr t = 0 then t else VaP.faultV 2) w) := by
 by_cases h : VaP.vErr t = 0
 ·rw [if_pos h]; exact valid_good t none 0 w hw (.flat hi hf) h
 ·rw [if_neg h]; exact valid_bad t none 0 w hw (.flat hi hf) h
theorem VaP.vErr_num (f : ExP.Fr) : VaP.vErr (VaP.numF f) = ExP.readE f := by
 unfold VaP.vErr VaP.vErr0 VaP.numF
 simp
theorem VaP.vErr_text (s : List UInt8) : VaP.vErr (VaP.rawT s) = VaP.txtE s := by
 unfold VaP.vErr VaP.vErr0 VaP.rawT
 simp
theorem VaP.vErr_fault (c : Int) : VaP.vErr (VaP.faultV c) = if c < 1 ∨ 8 < c then 2 else 0 := by
 unfold VaP.vErr VaP.vErr0 VaP.faultV
 simp
theorem vnumber_any (f : ExP.Fr) (w : World) (hw : XV w) (h1 : f.1.length ≤ 9223372036854775807) (h2 : f.2.length ≤ 9223372036854775807) : Calls Tryz.prog 19 #[frV f] w (IsV (if ExP.readE f = 0 then VaP.numF f else VaP.faultV 2) w) := by
 have V := fun (w' : World) (hb : BW w w') => valid_flat (VaP.numF f) w' (hw.below hb) rfl ⟨h1, h2, Nat.zero_le _, Nat.zero_le _⟩
 rw [VaP.vErr_num] at V
 obtain ⟨f1, f2⟩ := f
 by_cases h : ExP.readE (f1, f2) = 0
 ·simp only [if_pos h] at V ⊢
  refine yE Tryz.func19 rfl Tryz.results19 Tryz.ntmps19 [] [] [.agg [.str f1, .str f2]] w ?_
  repeat' (first | refine yX ?_ | (apply And.intro <;> intro _) | apply bothI | refine retB fun β => ?_ | intro βe | refine yK (.agg [.int .i64 1, .str f1, .str f2, .str [], .lit false, .int .i64 0, .int .i64 0, .int .i64 0, .any (.slice none 0 0)]) (fun β w hm => V w hm.below) ?_ | exact trivial)
  all_goals rfl
 ·simp only [if_neg h] at V ⊢
  refine yE Tryz.func19 rfl Tryz.results19 Tryz.ntmps19 [] [] [.agg [.str f1, .str f2]] w ?_
  repeat' (first | refine yX ?_ | (apply And.intro <;> intro _) | apply bothI | refine retB fun β => ?_ | intro βe | refine yK (.agg [.int .i64 4, .str [], .str [], .str [], .lit false, .int .i64 2, .int .i64 0, .int .i64 0, .any (.slice none 0 0)]) (fun β w hm => V w hm.below) ?_ | exact trivial)
  all_goals rfl
theorem vfault_any (c : Int) (w : World) (hw : XV w) : Calls Tryz.prog 22 #[.int .i64 c] w (IsV (VaP.faultV (if c < 1 ∨ 8 < c then 2 else c)) w) := by
 have V := fun (w' : World) (hb : BW w w') => valid_flat (VaP.faultV c) w' (hw.below hb) rfl ⟨Nat.zero_le _, Nat.zero_le _, Nat.zero_le _, Nat.zero_le _⟩
 rw [VaP.vErr_fault] at V
 obtain ⟨r, hr⟩ : ∃ r : Int, r = if c < 1 ∨ 8 < c then 2 else c := ⟨_, rfl⟩
 have hV : (if (if c < 1 ∨ 8 < c then (2 : Int) else 0) = 0 then VaP.faultV c else VaP.faultV 2) = VaP.faultV r := by
  rw [hr]
  by_cases h : c < 1 ∨ 8 < c
  ·rw [if_pos h, if_neg (by omega), if_pos h]
  ·rw [if_neg h, if_pos rfl, if_neg h]
 rw [← hr]
 simp only [hV] at V
 refine yE Tryz.func22 rfl Tryz.results22 Tryz.ntmps22 [] [] [.int .i64 c] w ?_
 repeat' (first | refine yX ?_ | (apply And.intro <;> intro _) | apply bothI | refine retB fun β => ?_ | intro βe | refine yK (.agg [.int .i64 4, .str [], .str [], .str [], .lit false, .int .i64 r, .int .i64 0, .int .i64 0, .any (.slice none 0 0)]) (fun β w hm => V w hm.below) ?_ | exact trivial)
 all_goals rfl
theorem vtextv_any (s : List UInt8) (w : World) (hw : XV w) (hs : s.length ≤ 9223372036854775807) : Calls Tryz.prog 20 #[.string (bstr s)] w (IsV (VaP.textV s) w) := by
 have V := fun (w' : World) (hb : BW w w') => valid_flat (VaP.rawT s) w' (hw.below hb) rfl ⟨Nat.zero_le _, Nat.zero_le _, hs, Nat.zero_le _⟩
 rw [VaP.vErr_text] at V
 unfold VaP.textV
 by_cases h : VaP.txtE s = 0
 ·simp only [if_pos h] at V ⊢
  refine yE Tryz.func20 rfl Tryz.results20 Tryz.ntmps20 [] [] [.str s] w ?_
  repeat' (first | refine yX ?_ | (apply And.intro <;> intro _) | apply bothI | refine retB fun β => ?_ | intro βe | refine yK (.agg [.int .i64 2, .str [], .str [], .str s, .lit false, .int .i64 0, .int .i64 0, .int .i64 0, .any (.slice none 0 0)]) (fun β w hm => V w hm.below) ?_ | exact trivial)
  all_goals rfl
 ·simp only [if_neg h] at V ⊢
  refine yE Tryz.func20 rfl Tryz.results20 Tryz.ntmps20 [] [] [.str s] w ?_
  repeat' (first | refine yX ?_ | (apply And.intro <;> intro _) | apply bothI | refine retB fun β => ?_ | intro βe | refine yK (.agg [.int .i64 4, .str [], .str [], .str [], .lit false, .int .i64 2, .int .i64 0, .int .i64 0, .any (.slice none 0 0)]) (fun β w hm => V w hm.below) ?_ | exact trivial)
  all_goals rfl
theorem vbool_any (b : Bool) (w : World) : Calls Tryz.prog 23 #[.bool b] w (IsV (VaP.boolV b) w) := by
 refine yE Tryz.func23 rfl Tryz.results23 Tryz.ntmps23 [] [] [.bool b] w ?_
 repeat' (first | refine yX ?_ | (apply And.intro <;> intro _) | apply bothI | refine retB fun β => ?_ | intro βe | exact trivial)
 all_goals rfl
end Go.Proofs.YtdkhkfdenlabaaaGreatDoor
namespace Go.Proofs.YtdkhkfdenlabaaaGreatDoor
open Go.RowKit
open Sym
namespace VaP
open ExP
theorem idx_byte (c : UInt8) : ∀ s : Str, Lib.indexByte s c = if c ∈ s then ((s.takeWhile (· != c)).length : Int) else -1
 | [] => rfl
 | x :: s => by
   unfold Lib.indexByte
   by_cases h : x = c
   ·subst h
    rw [if_pos (by simp), if_pos (by simp), List.takeWhile_cons_of_neg (by simp)]; rfl
   ·rw [if_neg (by simpa using h), idx_byte c s]
    by_cases hc : c ∈ s
    ·rw [if_pos hc, if_neg (by simp), if_pos (List.mem_cons_of_mem _ hc), List.takeWhile_cons_of_pos (by simp [h]), List.length_cons]; rfl
    ·rw [if_neg hc, if_pos (by simp), if_neg (by simp only [List.mem_cons, not_or]; exact ⟨fun e => h e.symm, hc⟩)]
theorem idx_one (c : UInt8) (s : Str) : Lib.index s [c] = if c ∈ s then ((s.takeWhile (· != c)).length : Int) else -1 := by
 rw [Lib.index_one, idx_byte]
theorem cut_parts {c : UInt8} {s : Str} (h : c ∈ s) : s.take (s.takeWhile (· != c)).length = s.takeWhile (· != c) ∧ s.drop ((s.takeWhile (· != c)).length + 1) = (s.dropWhile (· != c)).tail := by
 have e := cut_app h
 generalize s.takeWhile (· != c) = a at *
 generalize (s.dropWhile (· != c)).tail = b at *
 subst e
 constructor
 ·simp
 ·rw [show a ++ c :: b = (a ++ [c]) ++ b by simp, List.drop_left' (by simp)]
theorem lib_cut (c : UInt8) (s : Str) : Lib.cut s [c] = cutB c s := by
 unfold Lib.cut cutB
 rw [idx_one]
 by_cases h : c ∈ s
 ·obtain ⟨h1, h2⟩ := cut_parts h
  rw [if_pos h, if_pos (by omega), if_pos h, Int.toNat_natCast, h1]
  show (_, s.drop (_ + 1), _) = _
  rw [h2]
 ·rw [if_neg h, if_neg (by omega), if_neg h]
theorem cutB_len (c : UInt8) (s : Str) : (cutB c s).1.length ≤ s.length ∧ (cutB c s).2.1.length ≤ s.length := by
 unfold cutB
 split
 ·rename_i h
  have e := congrArg List.length (cut_app h)
  simp only [List.length_append, List.length_cons] at e
  dsimp only
  exact ⟨by omega, by omega⟩
 ·exact ⟨Nat.le_refl _, by simp⟩
theorem lib_split (c : UInt8) : ∀ (n : Nat) (s : Str), s.length ≤ n → Lib.splitK [c] 0 (Lib.count s [c]) s = splitC c s
 | n, s, hn => by
   have hi := idx_one c s
   by_cases h : c ∈ s
   ·rw [if_pos h] at hi
    obtain ⟨h1, h2⟩ := cut_parts h
    rw [Lib.count_hit (by simp) hi, split_cut h, Nat.add_comm 1, Lib.splitK, if_neg (by rw [hi]; simp), hi, Int.toNat_natCast, Nat.add_zero, h1]
    show _ :: Lib.splitK [c] 0 (Lib.count (s.drop (_ + 1)) [c]) (s.drop (_ + 1)) = _
    rw [h2]
    have hl : (s.dropWhile (· != c)).tail.length < s.length := by
     rw [← h2, List.length_drop]
     have : 0 < s.length := List.length_pos_of_mem h
     omega
    cases n with
    | zero => omega
    | succ n =>
      rw [lib_split c n _ (by omega)]
      unfold cutB
      rw [if_pos h]
   ·rw [if_neg h] at hi
    rw [Lib.count_miss hi, split_no h]; rfl
end VaP
theorem vcut_any (c : UInt8) (s : List UInt8) (w : World) (hw : XV w) (hs : s.length ≤ 1000000) : QC 113 #[.string (bstr s), .string (bstr [c])] w (.tuple #[.string (bstr (VaP.cutB c s).1), .string (bstr (VaP.cutB c s).2.1), .bool (VaP.cutB c s).2.2]) := by
 obtain ⟨m, hm⟩ := hw.len
 refine (Tryz.strings_Cut (bstr s) (bstr [c]) m w (by rw [bstr_size]; omega) hm).mono ?_
 rintro e w' ⟨h, n, rfl⟩
 have hb := Below.refl w.heap.size w
 refine ⟨?_, ⟨hb.os, hb.tape, hb.output, hb.size, hb.block⟩⟩
 rw [h, show (bstr s).data.toList = s from rfl, show (bstr [c]).data.toList = [c] from rfl, VaP.lib_cut]
 rfl
section
attribute [local irreducible] Calls Sym.AggEq ExP.nd ExP.dig ExP.upd ExP.writeF ExP.writeE VaP.cutB
theorem VaP.wh_parts {s : List UInt8} (h : VaP.wh s = true) : s ≠ [] ∧ s.all ExP.digC = true ∧ s.length ≤ 100 := by
 unfold VaP.wh at h
 simp only [Bool.and_eq_true, Bool.not_eq_true', List.isEmpty_eq_false_iff, decide_eq_true_eq] at h
 exact ⟨h.1.1, h.1.2, h.2⟩
def VaP.whF (s : List UInt8) : ExP.Fr := if VaP.wh s = true then (Lib.decDigits (ExP.valS s), [49]) else ([], [])
theorem vwholeS_any (s : List UInt8) (w : World) (hw : XV w) (hs : s.length ≤ 1000000) : QC 114 #[.string (bstr s)] w (.tuple #[frV (VaP.whF s), .bool (VaP.wh s)]) := by
 have D := fun (w' : World) => vdigits_any s w' (by omega)
 unfold VaP.whF
 cases hwh : VaP.wh s with
 | true =>
   obtain ⟨h0, ha, hl⟩ := VaP.wh_parts hwh
   obtain ⟨r1, r2⟩ := ExP.run_all ha
   obtain ⟨p1, p2⟩ := ExP.digits_par h0 ha (by omega)
   have hn : ExP.nd 10 (ExP.valS s) ≤ 300 := Nat.le_trans (ExP.nd_text ha hl) (by omega)
   have P := fun (w' : World) (h : BW w w') => parse_law s w' (hw.below h).xw (hw.below h).pos (by omega)
   simp only [p1, p2, if_true, ExP.write_whole hn, ExP.writeE_small (x := ⟨false, ExP.valS s, 1⟩) hn (by show ExP.nd 10 1 ≤ 300; rw [ExP.nd_one (by omega)]; omega) Nat.one_pos] at P
   rw [r1, r2] at D
   rw [if_pos rfl]
   generalize Lib.decDigits (ExP.valS s) = F at *
   clear p1 p2 r1 r2 hn ha
   refine yE Tryz.func114 rfl Tryz.results114 Tryz.ntmps114 [] [] [.str s] w ?_
   repeat' (first | refine yX ?_ | (apply And.intro <;> intro _) | apply bothI | refine retB fun β => ?_ | intro βe | refine yK (.tup [.str s, .str []]) (fun β w hm => D w) ?_ | refine yK (.tup [.agg [.str F, .str [49]], .int .i64 0]) (fun β w hm => P w hm.below) ?_ | exact trivial)
   all_goals first | (exfalso; omega) | (exfalso; contradiction) | rfl | trace_state
 | false =>
   rw [if_neg Bool.false_ne_true]
   have hb : ExP.runD s = [] ∨ ExP.runR s ≠ [] ∨ 100 < (ExP.runD s).length := by
    by_cases h2 : ExP.runR s = []
    ·have ha := ExP.run_not h2
     have h1 := (ExP.run_all ha).1
     rw [h1]
     by_cases h0 : s = []
     ·exact .inl h0
     ·right; right
      unfold VaP.wh at hwh
      rw [ha] at hwh
      have : s.isEmpty = false := by simpa using h0
      rw [this] at hwh
      simpa using hwh
    ·exact .inr (.inl h2)
   generalize ExP.runD s = d at *
   generalize ExP.runR s = r at *
   refine yE Tryz.func114 rfl Tryz.results114 Tryz.ntmps114 [] [] [.str s] w ?_
   repeat' (first | refine yX ?_ | (apply And.intro <;> intro _) | apply bothI | refine retB fun β => ?_ | intro βe | refine yK (.tup [.str d, .str r]) (fun β w hm => D w) ?_ | exact trivial)
   all_goals first | rfl | (exfalso; omega) | (exfalso; rcases hb with h | h | h <;> first | contradiction | omega) | trace_state
end
end Go.Proofs.YtdkhkfdenlabaaaGreatDoor
namespace Go.Proofs.YtdkhkfdenlabaaaGreatDoor
open Go.RowKit
open Sym
theorem belT {w w' w2 : World} (h : BW w w') (k : BW w' w2) : BW w w2 := h.trans (k.mono h.size)
def Reads (f : FuncId) (s : List UInt8) (V : Option ExP.Num) (w : World) : Prop := ∃ F : ExP.Fr, (∀ x, V = some x → F = ExP.writeF x) ∧ (F.1.length ≤ 301 ∧ F.2.length ≤ 300) ∧ ∀ w', BW w w' → QC f #[.string (bstr s)] w' (.tuple #[frV F, .bool V.isSome])
attribute [local irreducible] Calls Sym.AggEq ExP.nd ExP.dig ExP.upd ExP.writeF ExP.writeE VaP.cutB VaP.wh
theorem VaP.whF_yes {s : List UInt8} (h : VaP.wh s = true) : VaP.whF s = ExP.writeF ⟨false, ExP.valS s, 1⟩ ∧ ExP.writeE ⟨false, ExP.valS s, 1⟩ = 0 ∧ ExP.valS s < 10 ^ 100 := by
 obtain ⟨h0, ha, hl⟩ := VaP.wh_parts h
 have hn : ExP.nd 10 (ExP.valS s) ≤ 300 := Nat.le_trans (ExP.nd_text ha hl) (by omega)
 refine ⟨?_, ExP.writeE_small (x := ⟨false, ExP.valS s, 1⟩) hn (by show ExP.nd 10 1 ≤ 300; rw [ExP.nd_one (by omega)]; omega) Nat.one_pos, Nat.lt_of_lt_of_le (ExP.val_lt s ha) (Nat.pow_le_pow_right (by omega) hl)⟩
 unfold VaP.whF
 rw [if_pos h, ExP.write_whole hn]
theorem VaP.whF_len (s : List UInt8) : (VaP.whF s).1.length ≤ 301 ∧ (VaP.whF s).2.length ≤ 300 := by
 by_cases h : VaP.wh s = true
 ·rw [(VaP.whF_yes h).1]; exact ExP.writeF_len _
 ·unfold VaP.whF
  rw [if_neg h]
  exact ⟨by simp, by simp⟩
theorem ExP.mix_small {a b c : Nat} (ha : a < 10 ^ 100) (hb : b < 10 ^ 100) (hc : c < 10 ^ 100) (h0 : c ≠ 0) (m : Bool) : ExP.writeE ⟨false, b, c⟩ = 0 ∧ ExP.writeE ⟨m, a * c + b, c⟩ = 0 := by
 have h1 : a * c + b < 10 ^ 201 := by
  have e : (10 : Nat) ^ 201 = 10 ^ 100 * 10 ^ 100 * 10 := by rw [← Nat.pow_add, ← Nat.pow_succ]
  have h2 : a * c ≤ 10 ^ 100 * 10 ^ 100 := Nat.mul_le_mul (by omega) (by omega)
  have h3 : (10 : Nat) ^ 100 ≤ 10 ^ 100 * 10 ^ 100 := Nat.le_mul_of_pos_right _ (Nat.pow_pos (by omega))
  rw [e]
  generalize (10 : Nat) ^ 100 = k at *
  generalize k * k = q at *
  omega
 have n1 := ExP.nd_le (b := 10) (by omega) h1
 have n2 := ExP.nd_le (b := 10) (by omega) hb
 have n3 := ExP.nd_le (b := 10) (by omega) hc
 exact ⟨ExP.writeE_small (x := ⟨false, b, c⟩) (by show ExP.nd 10 b ≤ 300; omega) (by show ExP.nd 10 c ≤ 300; omega) (by show 0 < c; omega), ExP.writeE_small (x := ⟨m, a * c + b, c⟩) (by show ExP.nd 10 (a * c + b) ≤ 300; omega) (by show ExP.nd 10 c ≤ 300; omega) (by show 0 < c; omega)⟩
section
variable (s t u v p q : List UInt8) (m ok fine g1 g2 g3 : Bool) (A1 A2 B1 B2 C1 C2 : List UInt8) (w : World)
 (hM : ∀ w' : World, QC 54 #[.string (bstr s), .string (bstr [45])] w' (.tuple #[.string (bstr t), .bool m]))
 (hC : ∀ w', BW w w' → QC 113 #[.string (bstr t), .string (bstr [32])] w' (.tuple #[.string (bstr u), .string (bstr v), .bool ok]))
 (hD : ∀ w', BW w w' → QC 113 #[.string (bstr v), .string (bstr [47])] w' (.tuple #[.string (bstr p), .string (bstr q), .bool fine]))
 (hA : ∀ w', BW w w' → QC 114 #[.string (bstr u)] w' (.tuple #[frV (A1, A2), .bool g1]))
 (hB : ∀ w', BW w w' → QC 114 #[.string (bstr p)] w' (.tuple #[frV (B1, B2), .bool g2]))
 (hE : ∀ w', BW w w' → QC 114 #[.string (bstr q)] w' (.tuple #[frV (C1, C2), .bool g3]))
include hM hC hD hA hB hE
theorem mixed_no (h : ok = false ∨ fine = false ∨ g1 = false ∨ g2 = false ∨ g3 = false) : QC 57 #[.string (bstr s)] w (.tuple #[frV ([], []), .bool false]) := by
 refine yE Tryz.func57 rfl Tryz.results57 Tryz.ntmps57 [] [] [.str s] w ?_
 repeat' (first | refine yX ?_ | (apply And.intro <;> intro _) | apply bothI | refine retB fun β => ?_ | intro βe | refine yK (.tup [.str t, .bool m]) (fun β w hm => hM w) ?_ | refine yK (.tup [.str u, .str v, .bool ok]) (fun β w hm => hC w hm.below) ?_ | refine yK (.tup [.str p, .str q, .bool fine]) (fun β w hm => hD w hm.below) ?_ | refine yK (.tup [.agg [.str A1, .str A2], .bool g1]) (fun β w hm => hA w hm.below) ?_ | refine yK (.tup [.agg [.str B1, .str B2], .bool g2]) (fun β w hm => hB w hm.below) ?_ | refine yK (.tup [.agg [.str C1, .str C2], .bool g3]) (fun β w hm => hE w hm.below) ?_ | exact trivial)
 all_goals first | rfl | (exfalso; clear hM hC hD hA hB hE; simp_all; done) | trace_state
variable (Q1 Q2 S1 S2 N1 N2 : List UInt8) (e1 e2 e3 : Int)
 (hV : ∀ w', BW w w' → Calls Tryz.prog 112 #[frV (B1, B2), frV (C1, C2)] w' (WrOut (Q1, Q2) e1 w'))
 (hS : ∀ w', BW w w' → Calls Tryz.prog 115 #[frV (A1, A2), frV (Q1, Q2)] w' (WrOut (S1, S2) e2 w'))
include hV hS
theorem mixed_bad (h : ok = true ∧ fine = true ∧ g1 = true ∧ g2 = true ∧ g3 = true) (he : e1 ≠ 0) : QC 57 #[.string (bstr s)] w (.tuple #[frV ([], []), .bool false]) := by
 obtain ⟨rfl, rfl, rfl, rfl, rfl⟩ := h
 refine yE Tryz.func57 rfl Tryz.results57 Tryz.ntmps57 [] [] [.str s] w ?_
 repeat' (first | refine yX ?_ | (apply And.intro <;> intro _) | apply bothI | refine retB fun β => ?_ | intro βe | refine yK (.tup [.str t, .bool m]) (fun β w hm => hM w) ?_ | refine yK (.tup [.str u, .str v, .lit true]) (fun β w hm => hC w hm.below) ?_ | refine yK (.tup [.str p, .str q, .lit true]) (fun β w hm => hD w hm.below) ?_ | refine yK (.tup [.agg [.str A1, .str A2], .lit true]) (fun β w hm => hA w hm.below) ?_ | refine yK (.tup [.agg [.str B1, .str B2], .lit true]) (fun β w hm => hB w hm.below) ?_ | refine yK (.tup [.agg [.str C1, .str C2], .lit true]) (fun β w hm => hE w hm.below) ?_ | refine yK (.tup [.agg [.str Q1, .str Q2], .int .i64 e1]) (fun β w hm => hV w hm.below) ?_ | refine yK (.tup [.agg [.str S1, .str S2], .int .i64 e2]) (fun β w hm => hS w hm.below) ?_ | exact trivial)
 all_goals first | rfl | (exfalso; omega) | trace_state
variable (hN : ∀ w', BW w w' → Calls Tryz.prog 116 #[frV (S1, S2)] w' (WrOut (N1, N2) e3 w'))
include hN
theorem mixed_yes (h : ok = true ∧ fine = true ∧ g1 = true ∧ g2 = true ∧ g3 = true) (he : e1 = 0 ∧ e2 = 0) : QC 57 #[.string (bstr s)] w (.tuple #[frV (if m = true then (N1, N2) else (S1, S2)), .bool true]) := by
 obtain ⟨rfl, rfl, rfl, rfl, rfl⟩ := h
 obtain ⟨rfl, rfl⟩ := he
 refine yE Tryz.func57 rfl Tryz.results57 Tryz.ntmps57 [] [] [.str s] w ?_
 repeat' (first | refine yX ?_ | (apply And.intro <;> intro _) | apply bothI | refine retB fun β => ?_ | intro βe | refine yK (.tup [.str t, .bool m]) (fun β w hm => hM w) ?_ | refine yK (.tup [.str u, .str v, .lit true]) (fun β w hm => hC w hm.below) ?_ | refine yK (.tup [.str p, .str q, .lit true]) (fun β w hm => hD w hm.below) ?_ | refine yK (.tup [.agg [.str A1, .str A2], .lit true]) (fun β w hm => hA w hm.below) ?_ | refine yK (.tup [.agg [.str B1, .str B2], .lit true]) (fun β w hm => hB w hm.below) ?_ | refine yK (.tup [.agg [.str C1, .str C2], .lit true]) (fun β w hm => hE w hm.below) ?_ | refine yK (.tup [.agg [.str Q1, .str Q2], .int .i64 0]) (fun β w hm => hV w hm.below) ?_ | refine yK (.tup [.agg [.str S1, .str S2], .int .i64 0]) (fun β w hm => hS w hm.below) ?_ | refine yK (.tup [.agg [.str N1, .str N2], .int .i64 e3]) (fun β w hm => hN w hm.below) ?_ | exact trivial)
 all_goals first | (exfalso; omega) | (rw [if_pos (by assumption : m = true)]; rfl) | (rw [if_neg (by simp_all)]; rfl) | trace_state
end
theorem vmixed_any (s : List UInt8) (w : World) (hw : XV w) (hl : s.length ≤ 40000) : Reads 57 s (VaP.mixV s) w := by
 have hcl : (ExP.cutM s).1.length ≤ s.length := by
  unfold ExP.cutM
  split
  ·simp
  ·exact Nat.le_refl _
 have hM := fun (w' : World) => cutM_any s w'
 have hC := fun (w' : World) (h : BW w w') => vcut_any 32 (ExP.cutM s).1 w' (hw.below h) (by omega)
 have l1 := VaP.cutB_len 32 (ExP.cutM s).1
 have hD := fun (w' : World) (h : BW w w') => vcut_any 47 (VaP.cutB 32 (ExP.cutM s).1).2.1 w' (hw.below h) (by omega)
 have l2 := VaP.cutB_len 47 (VaP.cutB 32 (ExP.cutM s).1).2.1
 have hA := fun (w' : World) (h : BW w w') => vwholeS_any (VaP.cutB 32 (ExP.cutM s).1).1 w' (hw.below h) (by omega)
 have hB := fun (w' : World) (h : BW w w') => vwholeS_any (VaP.cutB 47 (VaP.cutB 32 (ExP.cutM s).1).2.1).1 w' (hw.below h) (by omega)
 have hE := fun (w' : World) (h : BW w w') => vwholeS_any (VaP.cutB 47 (VaP.cutB 32 (ExP.cutM s).1).2.1).2.1 w' (hw.below h) (by omega)
 unfold VaP.mixV VaP.mixG
 clear l1 l2 hcl
 generalize (ExP.cutM s).2 = m at *
 generalize (ExP.cutM s).1 = t at *
 generalize (VaP.cutB 32 t).1 = u at *
 generalize (VaP.cutB 32 t).2.2 = ok at *
 generalize (VaP.cutB 32 t).2.1 = v at *
 generalize (VaP.cutB 47 v).2.2 = fine at *
 generalize (VaP.cutB 47 v).2.1 = q at *
 generalize (VaP.cutB 47 v).1 = p at *
 have lA := VaP.whF_len u
 have lB := VaP.whF_len p
 have lC := VaP.whF_len q
 by_cases hall : (ok = true ∧ fine = true) ∧ VaP.wh u = true ∧ VaP.wh p = true ∧ VaP.wh q = true
 ·obtain ⟨hof, h1, h2, h3⟩ := hall
  rw [if_pos hof]
  obtain ⟨a1, a2, a3⟩ := VaP.whF_yes h1
  obtain ⟨b1, b2, b3⟩ := VaP.whF_yes h2
  obtain ⟨c1, c2, c3⟩ := VaP.whF_yes h3
  have hV := fun (w' : World) (h : BW w w') => div_any (VaP.whF p) (VaP.whF q) w' (hw.below h).xw (hw.below h).pos (by omega) (by omega) (by omega) (by omega)
  by_cases hz : ExP.valS q = 0
  ·rw [if_neg (fun h => h.2.2.2 hz)]
   obtain ⟨Q, hQ⟩ : ∃ Q : ExP.Fr, Q = ExP.twoF (VaP.whF p) (VaP.whF q) (ExP.divN (ExP.readN (VaP.whF p)) (ExP.readN (VaP.whF q))) (ExP.divE (ExP.readN (VaP.whF q))) := ⟨_, rfl⟩
   have hz1 := ExP.div_z (x := ⟨false, ExP.valS p, 1⟩) (y := ⟨false, ExP.valS q, 1⟩) rfl rfl Nat.one_pos Nat.one_pos b2 c2 hz
   rw [← b1, ← c1] at hz1
   rw [← hQ, hz1] at hV
   have lQ : Q.1.length ≤ 301 ∧ Q.2.length ≤ 300 := by
    rw [hQ]; unfold ExP.twoF
    split
    ·split
     ·exact ExP.writeF_len _
     ·exact ⟨by simp, by simp⟩
    ·exact ⟨by simp, by simp⟩
   have hS := fun (w' : World) (h : BW w w') => add_any (VaP.whF u) Q w' (hw.below h).xw (hw.below h).pos (by omega) (by omega) (by omega) (by omega)
   refine ⟨([], []), (fun x h => by cases h), ⟨by simp, by simp⟩, fun w' h => ?_⟩
   exact mixed_bad s t u v p q m ok fine (VaP.wh u) (VaP.wh p) (VaP.wh q) _ _ _ _ _ _ w' hM (fun w2 h2 => hC w2 (belT h h2)) (fun w2 h2 => hD w2 (belT h h2)) (fun w2 h2 => hA w2 (belT h h2)) (fun w2 h2 => hB w2 (belT h h2)) (fun w2 h2 => hE w2 (belT h h2)) _ _ _ _ _ _ (fun w2 h2 => hV w2 (belT h h2)) (fun w2 h2 => hS w2 (belT h h2)) ⟨hof.1, hof.2, h1, h2, h3⟩ (by omega)
  ·rw [if_pos ⟨h1, h2, h3, hz⟩]
   obtain ⟨d1, d2⟩ := ExP.div_w (x := ⟨false, ExP.valS p, 1⟩) (y := ⟨false, ExP.valS q, 1⟩) rfl rfl Nat.one_pos Nat.one_pos b2 c2 hz
   obtain ⟨s1, s2⟩ := ExP.mix_small a3 b3 c3 hz false
   obtain ⟨-, s3⟩ := ExP.mix_small a3 b3 c3 hz m
   have hq0 : 0 < ExP.valS q := Nat.pos_of_ne_zero hz
   obtain ⟨f1, f2⟩ := ExP.add_w (x := ⟨false, ExP.valS u, 1⟩) (y := ⟨false, ExP.valS p, ExP.valS q⟩) rfl rfl Nat.one_pos hq0 a2 s1
   have n1 := ExP.neg_w (x := ⟨false, ExP.valS u * ExP.valS q + ExP.valS p, ExP.valS q⟩) rfl hq0 s2
   dsimp only at d1 d2 f1 f2 n1
   rw [Nat.mul_one, Nat.one_mul] at d1 d2
   rw [Nat.mul_one, Nat.one_mul] at f1 f2
   rw [← b1, ← c1] at d1 d2
   rw [d1, d2, s1] at hV
   rw [← a1] at f1 f2
   have lQ := ExP.writeF_len ⟨false, ExP.valS p, ExP.valS q⟩
   have hS := fun (w' : World) (h : BW w w') => add_any (VaP.whF u) (ExP.writeF ⟨false, ExP.valS p, ExP.valS q⟩) w' (hw.below h).xw (hw.below h).pos (by omega) (by omega) (by omega) (by omega)
   rw [f1, f2, s2] at hS
   have lS := ExP.writeF_len ⟨false, ExP.valS u * ExP.valS q + ExP.valS p, ExP.valS q⟩
   have hN := fun (w' : World) (h : BW w w') => neg_any (ExP.writeF ⟨false, ExP.valS u * ExP.valS q + ExP.valS p, ExP.valS q⟩) w' (hw.below h).xw (hw.below h).pos (by omega) (by omega)
   rw [n1] at hN
   refine ⟨ExP.writeF ⟨m, ExP.valS u * ExP.valS q + ExP.valS p, ExP.valS q⟩, (fun x h => by cases h; rfl), ExP.writeF_len _, fun w' h => ?_⟩
   have := mixed_yes s t u v p q m ok fine (VaP.wh u) (VaP.wh p) (VaP.wh q) _ _ _ _ _ _ w' hM (fun w2 h2 => hC w2 (belT h h2)) (fun w2 h2 => hD w2 (belT h h2)) (fun w2 h2 => hA w2 (belT h h2)) (fun w2 h2 => hB w2 (belT h h2)) (fun w2 h2 => hE w2 (belT h h2)) _ _ _ _ _ _ _ _ _ (fun w2 h2 => hV w2 (belT h h2)) (fun w2 h2 => hS w2 (belT h h2)) (fun w2 h2 => hN w2 (belT h h2)) ⟨hof.1, hof.2, h1, h2, h3⟩ ⟨rfl, rfl⟩
   cases m with
   | true => exact this
   | false => exact this
 ·refine ⟨([], []), ?_, ⟨by simp, by simp⟩, fun w' h => ?_⟩
  ·intro x hx
   split at hx
   ·rename_i hof
    rw [if_neg (fun h => hall ⟨hof, h.1, h.2.1, h.2.2.1⟩)] at hx
    cases hx
   ·cases hx
  ·have hn : (if ok = true ∧ fine = true then (if VaP.wh u = true ∧ VaP.wh p = true ∧ VaP.wh q = true ∧ ExP.valS q ≠ 0 then some (⟨m, ExP.valS u * ExP.valS q + ExP.valS p, ExP.valS q⟩ : ExP.Num) else none) else none) = none := by
    split
    ·rename_i hof
     rw [if_neg (fun h => hall ⟨hof, h.1, h.2.1, h.2.2.1⟩)]
    ·rfl
   rw [hn]
   exact mixed_no s t u v p q m ok fine (VaP.wh u) (VaP.wh p) (VaP.wh q) _ _ _ _ _ _ w' hM (fun w2 h2 => hC w2 (belT h h2)) (fun w2 h2 => hD w2 (belT h h2)) (fun w2 h2 => hA w2 (belT h h2)) (fun w2 h2 => hB w2 (belT h h2)) (fun w2 h2 => hE w2 (belT h h2)) (by
    revert hall
    cases ok <;> cases fine <;> cases VaP.wh u <;> cases VaP.wh p <;> cases VaP.wh q <;> simp)
end Go.Proofs.YtdkhkfdenlabaaaGreatDoor
namespace Go.Proofs
end Go.Proofs
namespace Go.Proofs.YtdkhkfdenlabaaaGreatDoor
open Go.RowKit
open Sym
theorem run_eq_nil {P : Program} {w : World} {t : TypeId} {ms : Array (String × TypeId)} (v : Value) (b : Bool) (hv : (v = .nilIface ∧ b = true) ∨ ((∃ tp p, v = .iface tp p) ∧ b = false)) (hi : P.underlying t = some (.interface ms)) :
  (binOp .eql t v .nilIface).run P w = .ok (.bool b) w := by
 rcases hv with ⟨rfl, rfl⟩ | ⟨⟨tp, p, rfl⟩, rfl⟩
 ·have h : ∀ d : Nat, (Op.equalIn (d + 1) t .nilIface .nilIface).run P w = .ok true w := fun d => by simp [Op.equalIn, run_underlying hi]
  simp only [binOp]
  simp [Op.equal, Op.maxDepth, h 9999]
 ·have h : ∀ d : Nat, (Op.equalIn (d + 1) t (.iface tp p) .nilIface).run P w = .ok false w := fun d => by simp [Op.equalIn, run_underlying hi]
  simp only [binOp]
  simp [Op.equal, Op.maxDepth, h 9999]
namespace Sym
theorem x_eqNilI {C : Ctx} {G : Blobs} {x : Operand} {t u : TypeId} {ms : Array (String × TypeId)} (v : Value) (b : Bool) (hv : (v = .nilIface ∧ b = true) ∨ ((∃ tp p, v = .iface tp p) ∧ b = false)) (ht : C.P.underlying t = some (.interface ms)) : ExtN C G (.binOp .eql t x (.const .nilIface) u) [.any v, .any .nilIface] (.lit b) := by
 unfold ExtN
 intro ρ β w dst ty pos after g _ _ h
 have h' : ρ x = v ∧ ρ (.const .nilIface) = .nilIface := by simpa [opsX, SV.dens, SV.den] using h
 have h2 := run_eq_nil (P := C.P) (w := w) (t := t) v b hv ht
 rcases hv with ⟨rfl, rfl⟩ | ⟨⟨tp, p, rfl⟩, rfl⟩ <;> simp [execOp, eqGuard, h'.1, h'.2, h2, SV.den]
end Sym
section
attribute [local irreducible] Calls Sym.AggEq ExP.nd ExP.dig ExP.upd ExP.writeF ExP.writeE
variable (s d r : List UInt8) (n k : Int) (w : World) (hw0 : 0 < w.heap.size)
 (hD : ∀ w' : World, QC 119 #[.string (bstr s)] w' (.tuple #[.string (bstr d), .string (bstr r)]))
include hD
theorem count_ok (hA : ∀ w', BW w w' → QC 177 #[.string (bstr d)] w' (.tuple #[.int .i64 k, .nilIface])) :
  QC 118 #[.string (bstr s), .int .i64 n] w (.tuple #[.int .i64 k, .bool (decide ((d.length : Int) = n ∧ r = []))]) := by
 refine yE Tryz.func118 rfl Tryz.results118 Tryz.ntmps118 [] [] [.str s, .int .i64 n] w ?_
 repeat' (first | refine yX ?_ | (apply And.intro <;> intro _) | apply bothI | refine retB fun β => ?_ | intro βe | refine yK (.tup [.str d, .str r]) (fun β w hm => hD w) ?_ | refine yK (.tup [.int .i64 k, .any .nilIface]) (fun β w hm => hA w hm.below) ?_ | ((with_reducible show ∃ _ : SV, _); first | (refine ⟨.lit true, ?ok, x_eqNilI _ true (.inl ⟨rfl, rfl⟩) Tryz.underlying169, ?_⟩; (case ok => exact fun _ _ => trivial))) | exact trivial)
 all_goals first | (rw [decide_eq_true (by first | exact ⟨by assumption, by assumption⟩)]; rfl) | (rw [decide_eq_false (fun h => by first | exact absurd h.1 (by assumption) | exact absurd h.2 (by assumption))]; rfl) | trace_state
include hw0
theorem count_err (hA : ∀ w', BW w w' → Calls Tryz.prog 177 #[.string (bstr d)] w' fun e w'' => ∃ N, e = .returned (.tuple #[.int .i64 k, .iface 214 (.pointer (some ⟨N, 0, none⟩))]) ∧ BW w' w'') :
  QC 118 #[.string (bstr s), .int .i64 n] w (.tuple #[.int .i64 k, .bool false]) := by
 refine yE Tryz.func118 rfl Tryz.results118 Tryz.ntmps118 [] [] [.str s, .int .i64 n] w ?_
 repeat' (first | refine yX ?_ | (apply And.intro <;> intro _) | apply bothI | refine retB fun β => ?_ | intro βe | refine yK (.tup [.str d, .str r]) (fun β w hm => hD w) ?_ | (refine callSls (T := Nat) (fun N => .tup [.int .i64 k, .any (.iface 214 (.pointer (some ⟨N, 0, none⟩)))]) (fun _ => []) hw0 (by kernel_rfl) rfl (fun N => ⟨trivial, rfl, trivial⟩) (fun β w' hm => (hA w' hm.below).mono fun e w'' ⟨N, he, hb⟩ => ⟨hb, N, he, fun p hp => by cases hp⟩) (fun N _ => ?_)) | ((with_reducible show ∃ _ : SV, _); first | (refine ⟨.lit false, ?ok, x_eqNilI _ false (.inr ⟨⟨_, _, rfl⟩, rfl⟩) Tryz.underlying169, ?_⟩; (case ok => exact fun _ _ => trivial))) | exact trivial)
 all_goals first | rfl | trace_state
end
theorem count_any (s : List UInt8) (n : Int) (w : World) (hw : XV w) (hl : s.length ≤ 1000000) : ∃ (k : Int) (ok : Bool), (ok = true → s ≠ [] ∧ s.all ExP.digC = true ∧ (s.length : Int) = n) ∧ (1 ≤ s.length → s.length ≤ 18 → s.all ExP.digC = true → (s.length : Int) = n → ok = true ∧ k = (ExP.valS s : Nat)) ∧
  ∀ w', BW w w' → QC 118 #[.string (bstr s), .int .i64 n] w' (.tuple #[.int .i64 k, .bool ok]) := by
 have D := fun (w' : World) => vdigits_any s w' (by omega)
 have happ := ExP.run_app s
 have hda := ExP.runD_all s
 have hlen := congrArg List.length happ
 rw [List.length_append] at hlen
 have hok : ∀ k' : Int, (∀ w', BW w w' → QC 177 #[.string (bstr (ExP.runD s))] w' (.tuple #[.int .i64 k', .nilIface])) → ExP.runD s ≠ [] → (1 ≤ s.length → s.length ≤ 18 → s.all ExP.digC = true → k' = (ExP.valS s : Nat)) → ∃ (k : Int) (ok : Bool), (ok = true → s ≠ [] ∧ s.all ExP.digC = true ∧ (s.length : Int) = n) ∧ (1 ≤ s.length → s.length ≤ 18 → s.all ExP.digC = true → (s.length : Int) = n → ok = true ∧ k = (ExP.valS s : Nat)) ∧
   ∀ w', BW w w' → QC 118 #[.string (bstr s), .int .i64 n] w' (.tuple #[.int .i64 k, .bool ok]) := fun k' hA hne hk => by
  refine ⟨k', decide (((ExP.runD s).length : Int) = n ∧ ExP.runR s = []), fun h => ?_, fun h1 h2 h3 h4 => ?_, fun w' hb => count_ok s _ _ n k' w' D (fun w2 h2 => hA w2 (belT hb h2))⟩
  ·obtain ⟨h1, h2⟩ := of_decide_eq_true h
   have ha := ExP.run_not h2
   refine ⟨fun e => hne (by rw [e]; rfl), ha, ?_⟩
   rw [h2] at hlen
   simp at hlen
   omega
  ·obtain ⟨r1, r2⟩ := ExP.run_all h3
   rw [r1, r2]
   exact ⟨decide_eq_true ⟨h4, rfl⟩, hk h1 h2 h3⟩
 have hbad : ∀ k' : Int, (∀ w', BW w w' → Calls Tryz.prog 177 #[.string (bstr (ExP.runD s))] w' fun e w'' => ∃ N, e = .returned (.tuple #[.int .i64 k', .iface 214 (.pointer (some ⟨N, 0, none⟩))]) ∧ BW w' w'') → ¬ (1 ≤ s.length ∧ s.length ≤ 18 ∧ s.all ExP.digC = true) → ∃ (k : Int) (ok : Bool), (ok = true → s ≠ [] ∧ s.all ExP.digC = true ∧ (s.length : Int) = n) ∧ (1 ≤ s.length → s.length ≤ 18 → s.all ExP.digC = true → (s.length : Int) = n → ok = true ∧ k = (ExP.valS s : Nat)) ∧
   ∀ w', BW w w' → QC 118 #[.string (bstr s), .int .i64 n] w' (.tuple #[.int .i64 k, .bool ok]) := fun k' hA hk =>
  ⟨k', false, (fun h => by cases h), fun h1 h2 h3 _ => absurd ⟨h1, h2, h3⟩ hk, fun w' hb => count_err s _ _ n k' w' (hw.below hb).pos D (fun w2 h2 => hA w2 (belT hb h2))⟩
 by_cases hc : ExP.runD s ≠ [] ∧ (ExP.runD s).length ≤ 18
 ·refine hok _ (fun w' hb => atoi_any (ExP.runD s) w' hc.1 hc.2 hda) hc.1 (fun h1 h2 h3 => ?_)
  rw [(ExP.run_all h3).1]
 ·have hns : ¬ (1 ≤ s.length ∧ s.length ≤ 18 ∧ s.all ExP.digC = true) := fun ⟨h1, h2, h3⟩ => by
   rw [(ExP.run_all h3).1] at hc
   exact hc ⟨fun e => by rw [e] at h1; simp at h1, h2⟩
  have hd : (bstr (ExP.runD s)).data.toList = ExP.runD s := by simp [bstr]
  cases hA : Lib.atoiAll (ExP.runD s) with
  | ok v =>
    refine hok v (fun w' hb => ?_) (fun e => by rw [e] at hA; cases hA) (fun h1 h2 h3 => absurd ⟨h1, h2, h3⟩ hns)
    refine (Tryz.strconv_Atoi_ok (bstr (ExP.runD s)) (by rw [bstr_size]; omega) v (by rw [hd]; exact hA) w').mono ?_
    rintro e w'' h
    exact ⟨h.1, by obtain ⟨-, h2⟩ := h; rcases h2 with rfl | ⟨t, rfl⟩; exact Below.refl _ _; exact Lib.bytesWorld_below _ _ _⟩
  | range =>
    refine hbad (Lib.atoiSat (ExP.runD s)) (fun w' hb => ?_) hns
    obtain ⟨te, pe, he⟩ := (hw.below hb).ran
    refine (Tryz.strconv_Atoi_range (bstr (ExP.runD s)) (by rw [bstr_size]; omega) (by rw [hd]; exact hA) (.iface te pe) w' he (.inr ⟨_, _, rfl⟩)).mono ?_
    rintro e w'' ⟨N, h, -, -, hb2⟩
    exact ⟨N, by rw [h, hd], hb2⟩
  | _ =>
    refine hbad 0 (fun w' hb => ?_) hns
    obtain ⟨te, pe, he⟩ := (hw.below hb).syn
    refine (Tryz.strconv_Atoi_syntax (bstr (ExP.runD s)) (by rw [bstr_size]; omega) (by rw [hd]; exact hA) (.iface te pe) w' he (.inr ⟨_, _, rfl⟩)).mono ?_
    rintro e w'' ⟨N, h, -, -, hb2⟩
    exact ⟨N, h, hb2⟩
end Go.Proofs.YtdkhkfdenlabaaaGreatDoor
