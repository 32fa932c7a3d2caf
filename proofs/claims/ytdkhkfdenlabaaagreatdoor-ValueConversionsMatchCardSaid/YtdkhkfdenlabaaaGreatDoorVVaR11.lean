/- Values, the reference: a number that is  -/
import Derived.Test.YtdkhkfdenlabaaaGreatDoorVGG
import Derived.Test.YtdkhkfdenlabaaaGreatDoorVGW
import Derived.Test.YtdkhkfdenlabaaaGreatDoorVGX
import Derived.Test.YtdkhkfdenlabaaaGreatDoorVGQ
set_option linter.unusedSimpArgs false
set_option linter.unusedVariables false
set_option maxRecDepth 100000
set_option maxHeartbeats 64000000
namespace Go.Proofs.YtdkhkfdenlabaaaGreatDoor
open Go.Proofs.Tryz
open Go.RowKit
open Sym
attribute [local irreducible] Calls Sym.bM ae.nd ae.bu ae.upd ae.ak ae.ay
theorem MX (c : UInt8) (w : World) : QC 124 #[.int .u8 (c.toNat : Int)] w (.bool (af.QR c)) := by
 have D := fun (w' : World) => su c w'
 have hc := c.toNat_lt
 have h44 : (c == 44) = decide ((c.toNat : Int) = 44) := by
  rw [Bool.eq_iff_iff, beq_iff_eq, decide_eq_true_eq]
  constructor
  ·rintro rfl; rfl
  ·intro h; exact UInt8.toNat_inj.1 (by show c.toNat = 44; omega)
 unfold af.QR
 rw [h44]
 generalize ae.aY c = d at *
 refine yE func124 rfl results124 ntmps124 [] [] [.int .u8 (c.toNat : Int)] w ?_
 repeat' (first | exact ⟨⟩ | refine yG ?_ ?_ | refine yA (.bool d) (fun _ => D) ?_ | intro _)
 all_goals first | (subst_vars; rfl) | (simp_all [SV.den]; done)
theorem PT (s : List UInt8) (w : World) (hs : s.length <= 9223372036854775807) : QC 123 #[.string (ah s), .func (.func 124) #[] #[]] w (.int .i64 ((af.nX s).length : Nat)) := by
 refine yE func123 rfl results123 ntmps123 [] [] [.str s, .fn 124 []] w ?_
 repeat' (first | exact ⟨⟩ | refine yG ?_ ?_ | intro _)
 refine yZ (T := {n : Nat // n <= s.length /\ (af.nX s).length = n + (af.nX (s.drop n)).length}) (fun t => ⟨[(0, .str s), (1, .fn 124 []), (7, .int .i64 (s.length : Nat)), (8, .int .i64 (t.1 : Nat))], [], 0, 21⟩) (fun t => s.length - t.1) ⟨0, Nat.zero_le _, by simp⟩ [] [] (fun t I hI => ?_) (by dsimp only; ((with_reducible show wk _ _); repeat' (first | exact trivial | exact au _ | refine eY ?_ | refine eqS ?_ | apply And.intro | exact yV | fail)))
 obtain ⟨n, hn, hr⟩ := t
 dsimp only
 by_cases hlt : n < s.length
 ·rw [head_drop s n hlt] at hr
  by_cases hc : af.QR (s.getD n 0) = true
  ·have hd := fun w => MX (s.getD n 0) w
   rw [hc] at hd
   unfold af.nX at hr
   rw [List.takeWhile_cons_of_pos hc] at hr
   repeat' (first | exact ⟨⟩ | refine yG ?_ ?_ | refine yA (.lit true) (fun _ => hd) ?_ | ((with_reducible show ∃ _, _); first | (refine ⟨n, rfl, by omega, ?_⟩)) | intro _)
   exact hI _ ⟨n + 1, by omega, by unfold af.nX; rw [hr]; simp; omega⟩ (by dsimp only; omega) (by dsimp only; ((with_reducible show wk _ _); repeat' (first | exact trivial | exact au _ | refine eY ?_ | refine eqS ?_ | apply And.intro | exact yV | fail)))
  ·have hd := fun w => MX (s.getD n 0) w
   rw [Bool.eq_false_iff.2 hc] at hd
   unfold af.nX at hr
   rw [List.takeWhile_cons_of_neg hc] at hr
   have hr2 : (af.nX s).length = n := by unfold af.nX; rw [hr]; rfl
   rw [hr2]
   repeat' (first | exact ⟨⟩ | refine yG ?_ ?_ | refine yA (.lit false) (fun _ => hd) ?_ | ((with_reducible show ∃ _, _); first | (refine ⟨n, rfl, by omega, ?_⟩)) | intro _)
   all_goals rfl
 ·have : n = s.length := by omega
  subst this
  rw [List.drop_of_length_le (Nat.le_refl _)] at hr
  have hr2 : (af.nX s).length = s.length := hr
  rw [hr2]
  repeat' (first | exact ⟨⟩ | refine yG ?_ ?_ | intro _)
  all_goals rfl
def af.fJ (g : List UInt8) : Bool := !g.isEmpty && g.all ae.aY
theorem af.NK : ∀ l : List (List UInt8), af.Dt l = true ↔ ∀ x ∈ l, af.fJ x = true /\ x.length = 3
 | [] => by simp [af.Dt]
 | g :: l => by
   unfold af.Dt
   have ih := af.NK l
   simp only [Bool.and_eq_true, decide_eq_true_eq, List.mem_cons, forall_eq_or_imp, ih]
   unfold af.fJ
   simp only [Bool.and_eq_true]
def af.bJ (n i : Nat) (g : List UInt8) : Prop := af.fJ g = true /\ ¬ (1 < n /\ (i = 0 /\ 3 < g.length \/ 0 < i /\ g.length ≠ 3))
theorem af.Vx {gs : List (List UInt8)} (h0 : gs ≠ []) : af.rX gs = true ↔ ∀ i g, gs[i]? = some g -> af.bJ gs.length i g := by
 cases gs with
 | nil => exact absurd rfl h0
 | cons a l =>
   have e : af.rX (a :: l) = (af.fJ a && (l.isEmpty || decide (a.length <= 3)) && af.Dt l) := rfl
   rw [e]
   simp only [Bool.and_eq_true, Bool.or_eq_true, decide_eq_true_eq, List.isEmpty_iff, af.NK]
   unfold af.bJ
   constructor
   ·rintro ⟨⟨h1, h2⟩, h3⟩ i g hg
    cases i with
    | zero =>
      simp only [List.getElem?_cons_zero, Option.some.injEq] at hg
      subst hg
      refine ⟨h1, ?_⟩
      rintro ⟨q1, q2⟩
      rcases h2 with rfl | h2
      ·simp at q1
      ·omega
    | succ i =>
      simp only [List.getElem?_cons_succ] at hg
      obtain ⟨q1, q2⟩ := h3 g (List.mem_of_getElem? hg)
      exact ⟨q1, by omega⟩
   ·intro h
    obtain ⟨p1, p2⟩ := h 0 a rfl
    refine ⟨⟨p1, ?_⟩, fun x hx => ?_⟩
    ·cases l with
     | nil => exact .inl rfl
     | cons b l =>
       right
       simp only [List.length_cons] at p2
       refine Nat.le_of_not_lt (fun h3 => p2 ⟨by omega, .inl ⟨trivial, h3⟩⟩)
    ·obtain ⟨i, hi, rfl⟩ := List.mem_iff_getElem.1 hx
     obtain ⟨q1, q2⟩ := h (i + 1) l[i] (by simp [hi])
     refine ⟨q1, ?_⟩
     simp only [List.length_cons] at q2
     exact Decidable.byContradiction fun h3 => q2 ⟨by have := List.length_pos_of_mem hx; omega, .inr ⟨by omega, h3⟩⟩
theorem mG {gs : List (List UInt8)} {i : Nat} {g : List UInt8} (h : gs[i]? = some g) : (gs.take (i + 1)).flatten = (gs.take i).flatten ++ g := by
 obtain ⟨hi, e⟩ := List.getElem?_eq_some_iff.1 h
 rw [List.take_succ_eq_append_getElem hi, e, List.flatten_append]
 simp
theorem dE (gs : List (List UInt8)) : ∀ i, (gs.take i).flatten.length <= gs.flatten.length := by
 intro i
 have := congrArg (fun l => l.flatten.length) (List.take_append_drop i gs)
 simp only [List.flatten_append, List.length_append] at this
 omega
theorem pX {gs : List (List UInt8)} {i : Nat} {g : List UInt8} (h : gs[i]? = some g) : (bP gs)[i * 1]? = some (Value.string (ah g)) := by
 unfold bP
 rw [Nat.mul_one, List.getElem?_map, h]; rfl
def uJ (w : World) (N : ae.Num) (G : bI -> World -> Prop) : Prop := ∀ (x : bI) (w' : World), BW w w' -> aX .i64 10 x w' -> x.num = N -> G x w'
theorem CJ (c : UInt8) (r u v : List UInt8) (gs : List (List UInt8)) (k : Nat) (w : World) (hw0 : 0 < w.heap.size) (hl : r.length <= 100000) (hc : (c.toNat : Int) = 45) (hq0 : (List.drop 1 (c :: r)) ≠ []) (hq : (((List.drop 1 (c :: r)).getD ((List.drop 1 (c :: r)).length - 1) 0).toNat : Int) = 37) (hQ : u ++ v = (List.take ((List.drop 1 (c :: r)).length - 1) (List.drop 1 (c :: r)))) (hk : k = u.length) (hgl : gs.flatten.length <= 100000) (hgn : gs.length <= 1000000)
  (hM : ∀ w' : World, QC 122 #[.string (ah (c :: r)), .string (ah [45])] w' (.bool true))
  (hP : ∀ w' : World, QC 122 #[.string (ah (c :: r)), .string (ah [43])] w' (.bool false))
  (hS : ∀ w' : World, QC 123 #[.string (ah (List.take ((List.drop 1 (c :: r)).length - 1) (List.drop 1 (c :: r)))), .func (.func 124) #[] #[]] w' (.int .i64 (k : Nat)))
  (hL : ∀ w' : World, Calls Tryz.prog 126 #[.string (ah u), .int .u8 44] w' fun e w'' => BW w' w'' /\ ∃ t : Nat × Nat, e = .returned (.slice (some ⟨t.1, 0, none⟩) gs.length t.2) /\ ∀ q ∈ [((some ⟨t.1, 0, none⟩ : Option Addr), bP gs)], aS q.1 q.2 w'' /\ bz q.1 q.2 w')
  (hA : ∀ (g : List UInt8), g.length <= 100000 -> ∀ w' : World, QC 127 #[.string (ah g)] w' (.bool (af.fJ g)))
  (N : ae.Num) (ok : Bool) (hbad : ∀ i g, gs[i]? = some g -> ¬ af.bJ gs.length i g -> ok = false /\ N = ⟨false, 0, 0⟩)
  (N0 : ae.Num) (E0 E1 : Int) (hR : (∀ i g, gs[i]? = some g -> af.bJ gs.length i g) -> ∀ w', BW w w' -> Calls Tryz.prog 128 #[.string (ah ([45] ++ gs.flatten ++ v))] w' (iC .i64 10 N0 E0 w'))
  (hE : (∀ i g, gs[i]? = some g -> af.bJ gs.length i g) -> E0 ≠ 0 -> ok = false /\ N = ⟨false, 0, 0⟩)
  (hX : (∀ i g, gs[i]? = some g -> af.bJ gs.length i g) -> E0 = 0 -> uJ w N0 fun x w' => Calls Tryz.prog 129 #[x.val 10, .int .i64 (-2)] w' (vN (Lz x.n x.a (Lz x.d x.b [])) .i64 10 N w'))
  (F1 F2 : List UInt8) (hF : (∀ i g, gs[i]? = some g -> af.bJ gs.length i g) -> E0 = 0 -> uJ w N fun x w' => Calls Tryz.prog 103 #[x.val 10] w' (fQ (F1, F2) E1 w'))
  (hok : (∀ i g, gs[i]? = some g -> af.bJ gs.length i g) -> E0 = 0 -> ok = decide (E1 = 0)) :
  Calls Tryz.prog 63 #[.string (ah (c :: r))] w (dU .i64 10 N ok w) := by
 have hc' := c.toNat_lt
 have hkl : k <= (List.take ((List.drop 1 (c :: r)).length - 1) (List.drop 1 (c :: r))).length := by rw [<- hQ, hk, List.length_append]; omega
 have hu : List.take k (List.take ((List.drop 1 (c :: r)).length - 1) (List.drop 1 (c :: r))) = u := by rw [<- hQ, hk]; simp
 have hv : List.drop k (List.take ((List.drop 1 (c :: r)).length - 1) (List.drop 1 (c :: r))) = v := by rw [<- hQ, hk]; simp
 have U6 : (c :: r).length <= 100001 := by simp; omega
 have KW : 1 <= (c :: r).length := by simp
 have hdl : (List.drop 1 (c :: r)).length <= 100000 := by simpa using hl
 have hgd : (c :: r).getD 0 0 = c := rfl
 have YW := hq
 simp at YW
 have hvl : (List.drop k (List.take ((List.drop 1 (c :: r)).length - 1) (List.drop 1 (c :: r)))).length <= 100001 := by rw [List.length_drop, List.length_take]; omega
 have Ry : (List.take ((List.drop 1 (c :: r)).length - 1) (List.drop 1 (c :: r))).length <= 100001 := by rw [List.length_take]; omega
 refine yE func63 rfl results63 ntmps63 [] [] [.str (c :: r)] w ?_
 repeat' (first | exact ⟨⟩ | refine yG ?_ ?_ | refine yA (.lit true) (fun _ => hM) ?_ | refine yA (.int .i64 (k : Nat)) (fun _ => hS) ?_ | (refine bT (T := Nat × Nat) (fun t => .any (.slice (some ⟨t.1, 0, none⟩) gs.length t.2)) (fun t => [(some ⟨t.1, 0, none⟩, bP gs)]) hw0 (by kernel_rfl) rfl (fun _ => rfl) (fun β w' hm => (by first | exact hL w' | (rw [<- hu] at hL; exact hL w'))) (fun p _ => ?_)) | ((with_reducible show ∃ _ : SV, _); first | (refine ⟨.lit true, by kernel_rfl, trivial, fun β w hm => hM w, ?_⟩) | refine yO (aJ underlying121) ?_) | ((with_reducible show ∃ _, _); first | (refine ⟨0, rfl, by simp, ?_⟩) | (refine ⟨1, rfl, by simp, ?_⟩) | (refine ⟨k, rfl, by omega, ?_⟩) | (refine ⟨(List.drop 1 (c :: r)).length - 1, by have := List.length_pos_iff.2 (by assumption : ¬ (List.drop 1 (c :: r)) = []); omega, by have := List.length_pos_iff.2 (by assumption : ¬ (List.drop 1 (c :: r)) = []); omega, ?_⟩)) | intro _)
 all_goals first | (exfalso; rw [hgd] at *; omega) | (exfalso; contradiction) | (exfalso; exact hq0 (Decidable.not_not.1 (by assumption))) | (exfalso; rcases hq with h | h <;> contradiction) | skip
 all_goals
  clear hM hP hS hL hu hQ hgd
  refine yZ (T := {t : Nat × List UInt8 // t.1 <= gs.length /\ t.2 = (gs.take t.1).flatten /\ ∀ j g, j < t.1 -> gs[j]? = some g -> af.bJ gs.length j g}) (fun t => ⟨[(0, .str (List.take ((List.drop 1 (c :: r)).length - 1) (List.drop 1 (c :: r)))), (2, .ptr 0 0), (4, .str [45]), (5, .lit true), (6, .int .i64 (k : Nat)), (7, .any (.slice (some ⟨p.1, 0, none⟩) gs.length p.2)), (8, .str t.1.2), (46, .any (.slice (some ⟨p.1, 0, none⟩) gs.length p.2)), (47, .int .i64 (gs.length : Nat)), (48, .int .i64 (t.1.1 : Nat))], [(0, true, .cells 72 [.lit false, .any (.slice none 0 0), .any (.slice none 0 0)]), (1, false, .aK (bV w.heap.size (some ⟨p.1, 0, none⟩) (bP gs)))], 2, 109⟩) (fun t => gs.length - t.1.1) ⟨(0, []), Nat.zero_le _, by simp, fun j g h => by omega⟩ [] [] (fun t I hI => ?_) (by ((with_reducible show wk _ _); repeat' (first | exact trivial | exact au _ | refine eY ?_ | refine eqS ?_ | apply And.intro | exact yV | fail)); all_goals first | exact fun b x h => h | (simp_all [fK, IK, rf]; done))
  obtain ⟨⟨i, acc⟩, hi, hacc, fB⟩ := t
  dsimp only at hi hacc fB hI ⊢
  have hal : acc.length <= 100000 := by rw [hacc]; exact Nat.le_trans (dE gs i) hgl
  by_cases hlt : i < gs.length
  ·obtain ⟨g, hg⟩ : ∃ g, gs[i]? = some g := ⟨gs[i], List.getElem?_eq_getElem hlt⟩
   have hld := pX hg
   have hnx := mG hg
   rw [<- hacc] at hnx
   have BA : g.length <= 100000 := by
    have h1 := dE gs (i + 1)
    rw [hnx, List.length_append] at h1
    omega
   have A := hA g BA
   have rM : (af.fJ g = false \/ (1 < gs.length /\ (i = 0 /\ 3 < g.length \/ 0 < i /\ g.length ≠ 3))) -> ok = false /\ N = ⟨false, 0, 0⟩ := fun h => hbad i g hg (fun h' => by
    rcases h with h | h
    ·obtain ⟨g1, -⟩ := h'
     rw [h] at g1; cases g1
    ·obtain ⟨-, g2⟩ := h'
     exact g2 h)
   have hgood : af.fJ g = true -> ¬ (1 < gs.length /\ (i = 0 /\ 3 < g.length \/ 0 < i /\ g.length ≠ 3)) -> ∀ j g', j < i + 1 -> gs[j]? = some g' -> af.bJ gs.length j g' := fun h1 h2 j g' hj hg' => by
    by_cases e : j = i
    ·subst e
     rw [hg] at hg'; cases hg'
     exact ⟨h1, h2⟩
    ·exact fB j g' (by omega) hg'
   generalize af.fJ g = AD at *
   clear hbad hA hR hE hF hok fB
   clear hX
   repeat' (first | exact ⟨⟩ | refine yG ?_ ?_ | refine yA (.bool AD) (fun _ => A) ?_ | refine yO (aJ underlying121) ?_ | refine yN (j := i) underlying121 sizeOf9 ?_ | refine yO (v := .str g) (aP 1 (.str g) (fun w => isAgg9 w) rfl (fun β => hld)) ?_ | intro _)
   all_goals first | (exfalso; omega) | (obtain ⟨rfl, rfl⟩ := rM (by first | (left; simpa using (by assumption : (!AD) = true)) | (right; omega)); (refine ret fun β w' hm => ?_; exact ⟨⟨false, 0, 0, none, 0, none, 0⟩, by simp [bI.val, ae.aT, SV.den, SV.aF], rfl, dM, sW, hm.below⟩)) | (refine hI _ ⟨(i + 1, acc ++ g), by dsimp only; omega, by dsimp only; rw [hnx], hgood (by simpa using (by assumption : (!AD) = false)) (by omega)⟩ (by dsimp only; omega) yW; done)
  ·have e : i = gs.length := by omega
   subst e
   rw [List.take_length] at hacc
   have hall : ∀ j g, gs[j]? = some g -> af.bJ gs.length j g := fun j g hg => fB j g (List.getElem?_eq_some_iff.1 hg).1 hg
   replace hR := hR hall
   replace hE := hE hall
   replace hok := hok hall
   rw [<- hv, <- hacc] at hR
   clear hbad hA fB
   obtain ⟨m0, n0, d0⟩ := N0
   by_cases hE0 : E0 = 0
   ·have hok2 := hok hE0
    rw [hok2]
    replace hX := hX hall hE0
    replace hF := hF hall hE0
    obtain ⟨m1, n1, d1⟩ := N
    repeat' (first | exact ⟨⟩ | refine yG ?_ ?_ | (refine eG .i64 10 ⟨m0, n0, d0⟩ E0 hw0 (by kernel_rfl) rfl (fun β w' hm => hR w' hm.below) (fun a1 c1 a2 c2 hc1 => ?_)) | (refine Ad (Lz n0 a1 (Lz d0 a2 [])) .i64 10 ⟨m1, n1, d1⟩ hw0 (by kernel_rfl) rfl (oz 2 (Nat.le_of_ble_eq_true rfl) rfl (oz 3 (Nat.le_of_ble_eq_true rfl) rfl Ai)) (fun β w' hm => hX ⟨m0, n0, d0, a1, c1, a2, c2⟩ w' hm.below (aX.of (hm.dS 2 rfl) (hm.dS 3 rfl) hc1) rfl) (fun a3 c3 a4 c4 hc2 => ?_)) | refine yK (.bg [.agg [.str F1, .str F2], .int .i64 E1]) (fun β w hm => hF ⟨m1, n1, d1, a3, c3, a4, c4⟩ w hm.below (aX.of (df hm) (df hm) hc2) rfl) ?_ | ((with_reducible show ∃ _, _); first | (refine ⟨k, rfl, by omega, ?_⟩)) | intro _)
    all_goals first | (exfalso; omega) | (refine ret fun β w' hm => ?_; first | exact ⟨⟨m1, n1, d1, a3, c3, a4, c4⟩, rfl, rfl, hc2, oK (hm.dS 5 rfl) (hm.di 5 rfl rfl) (hm.dS 6 rfl) (hm.di 6 rfl rfl), hm.below⟩ | exact ⟨⟨m1, n1, d1, a3, c3, a4, c4⟩, rfl, rfl, hc2, oK (hm.dS 4 rfl) (hm.di 4 rfl rfl) (hm.dS 5 rfl) (hm.di 5 rfl rfl), hm.below⟩)
   ·obtain ⟨hok2, xU⟩ := hE hE0
    rw [hok2, xU]
    repeat' (first | exact ⟨⟩ | refine yG ?_ ?_ | (refine eG .i64 10 ⟨m0, n0, d0⟩ E0 hw0 (by kernel_rfl) rfl (fun β w' hm => hR w' hm.below) (fun a1 c1 a2 c2 hc1 => ?_)) | ((with_reducible show ∃ _, _); first | (refine ⟨k, rfl, by omega, ?_⟩)) | intro _)
    all_goals first | (exfalso; omega) | (refine ret fun β w' hm => ?_; exact ⟨⟨false, 0, 0, none, 0, none, 0⟩, by simp [bI.val, ae.aT, SV.den, SV.aF], rfl, dM, sW, hm.below⟩)
theorem Dy (c : UInt8) (r u v : List UInt8) (gs : List (List UInt8)) (k : Nat) (w : World) (hw0 : 0 < w.heap.size) (hl : r.length <= 100000) (hc : (c.toNat : Int) = 45) (hq : (List.drop 1 (c :: r)) = [] \/ ¬ (((List.drop 1 (c :: r)).getD ((List.drop 1 (c :: r)).length - 1) 0).toNat : Int) = 37) (hQ : u ++ v = (List.drop 1 (c :: r))) (hk : k = u.length) (hgl : gs.flatten.length <= 100000) (hgn : gs.length <= 1000000)
  (hM : ∀ w' : World, QC 122 #[.string (ah (c :: r)), .string (ah [45])] w' (.bool true))
  (hP : ∀ w' : World, QC 122 #[.string (ah (c :: r)), .string (ah [43])] w' (.bool false))
  (hS : ∀ w' : World, QC 123 #[.string (ah (List.drop 1 (c :: r))), .func (.func 124) #[] #[]] w' (.int .i64 (k : Nat)))
  (hL : ∀ w' : World, Calls Tryz.prog 126 #[.string (ah u), .int .u8 44] w' fun e w'' => BW w' w'' /\ ∃ t : Nat × Nat, e = .returned (.slice (some ⟨t.1, 0, none⟩) gs.length t.2) /\ ∀ q ∈ [((some ⟨t.1, 0, none⟩ : Option Addr), bP gs)], aS q.1 q.2 w'' /\ bz q.1 q.2 w')
  (hA : ∀ (g : List UInt8), g.length <= 100000 -> ∀ w' : World, QC 127 #[.string (ah g)] w' (.bool (af.fJ g)))
  (N : ae.Num) (ok : Bool) (hbad : ∀ i g, gs[i]? = some g -> ¬ af.bJ gs.length i g -> ok = false /\ N = ⟨false, 0, 0⟩)
  (N0 : ae.Num) (E0 E1 : Int) (hR : (∀ i g, gs[i]? = some g -> af.bJ gs.length i g) -> ∀ w', BW w w' -> Calls Tryz.prog 128 #[.string (ah ([45] ++ gs.flatten ++ v))] w' (iC .i64 10 N0 E0 w'))
  (hE : (∀ i g, gs[i]? = some g -> af.bJ gs.length i g) -> E0 ≠ 0 -> ok = false /\ N = ⟨false, 0, 0⟩)
  (F1 F2 : List UInt8) (hF : (∀ i g, gs[i]? = some g -> af.bJ gs.length i g) -> E0 = 0 -> uJ w N0 fun x w' => Calls Tryz.prog 103 #[x.val 10] w' (fQ (F1, F2) E1 w'))
  (hok : (∀ i g, gs[i]? = some g -> af.bJ gs.length i g) -> E0 = 0 -> N = N0 /\ ok = decide (E1 = 0)) :
  Calls Tryz.prog 63 #[.string (ah (c :: r))] w (dU .i64 10 N ok w) := by
 have hc' := c.toNat_lt
 have hkl : k <= (List.drop 1 (c :: r)).length := by rw [<- hQ, hk, List.length_append]; omega
 have hu : List.take k (List.drop 1 (c :: r)) = u := by rw [<- hQ, hk]; simp
 have hv : List.drop k (List.drop 1 (c :: r)) = v := by rw [<- hQ, hk]; simp
 have U6 : (c :: r).length <= 100001 := by simp; omega
 have KW : 1 <= (c :: r).length := by simp
 have hdl : (List.drop 1 (c :: r)).length <= 100000 := by simpa using hl
 have hgd : (c :: r).getD 0 0 = c := rfl
 have hvl : (List.drop k (List.drop 1 (c :: r))).length <= 100001 := by rw [List.length_drop]; omega
 have Ry : (List.drop 1 (c :: r)).length <= 100001 := by omega
 refine yE func63 rfl results63 ntmps63 [] [] [.str (c :: r)] w ?_
 repeat' (first | exact ⟨⟩ | refine yG ?_ ?_ | refine yA (.lit true) (fun _ => hM) ?_ | refine yA (.int .i64 (k : Nat)) (fun _ => hS) ?_ | (refine bT (T := Nat × Nat) (fun t => .any (.slice (some ⟨t.1, 0, none⟩) gs.length t.2)) (fun t => [(some ⟨t.1, 0, none⟩, bP gs)]) hw0 (by kernel_rfl) rfl (fun _ => rfl) (fun β w' hm => (by first | exact hL w' | (rw [<- hu] at hL; exact hL w'))) (fun p _ => ?_)) | ((with_reducible show ∃ _ : SV, _); first | (refine ⟨.lit true, by kernel_rfl, trivial, fun β w hm => hM w, ?_⟩) | refine yO (aJ underlying121) ?_) | ((with_reducible show ∃ _, _); first | (refine ⟨0, rfl, by simp, ?_⟩) | (refine ⟨1, rfl, by simp, ?_⟩) | (refine ⟨k, rfl, by omega, ?_⟩) | (refine ⟨(List.drop 1 (c :: r)).length - 1, by have := List.length_pos_iff.2 (by assumption : ¬ (List.drop 1 (c :: r)) = []); omega, by have := List.length_pos_iff.2 (by assumption : ¬ (List.drop 1 (c :: r)) = []); omega, ?_⟩)) | intro _)
 all_goals first | (exfalso; rw [hgd] at *; omega) | (exfalso; contradiction) | (exfalso; exact hq0 (Decidable.not_not.1 (by assumption))) | (exfalso; rcases hq with h | h <;> contradiction) | skip
 all_goals
  clear hM hP hS hL hu hQ hgd
  refine yZ (T := {t : Nat × List UInt8 // t.1 <= gs.length /\ t.2 = (gs.take t.1).flatten /\ ∀ j g, j < t.1 -> gs[j]? = some g -> af.bJ gs.length j g}) (fun t => ⟨[(0, .str (List.drop 1 (c :: r))), (2, .ptr 0 0), (4, .str [45]), (5, .lit false), (6, .int .i64 (k : Nat)), (7, .any (.slice (some ⟨p.1, 0, none⟩) gs.length p.2)), (8, .str t.1.2), (46, .any (.slice (some ⟨p.1, 0, none⟩) gs.length p.2)), (47, .int .i64 (gs.length : Nat)), (48, .int .i64 (t.1.1 : Nat))], [(0, true, .cells 72 [.lit false, .any (.slice none 0 0), .any (.slice none 0 0)]), (1, false, .aK (bV w.heap.size (some ⟨p.1, 0, none⟩) (bP gs)))], 2, 109⟩) (fun t => gs.length - t.1.1) ⟨(0, []), Nat.zero_le _, by simp, fun j g h => by omega⟩ [] [] (fun t I hI => ?_) (by ((with_reducible show wk _ _); repeat' (first | exact trivial | exact au _ | refine eY ?_ | refine eqS ?_ | apply And.intro | exact yV | fail)); all_goals first | exact fun b x h => h | (simp_all [fK, IK, rf]; done))
  obtain ⟨⟨i, acc⟩, hi, hacc, fB⟩ := t
  dsimp only at hi hacc fB hI ⊢
  have hal : acc.length <= 100000 := by rw [hacc]; exact Nat.le_trans (dE gs i) hgl
  by_cases hlt : i < gs.length
  ·obtain ⟨g, hg⟩ : ∃ g, gs[i]? = some g := ⟨gs[i], List.getElem?_eq_getElem hlt⟩
   have hld := pX hg
   have hnx := mG hg
   rw [<- hacc] at hnx
   have BA : g.length <= 100000 := by
    have h1 := dE gs (i + 1)
    rw [hnx, List.length_append] at h1
    omega
   have A := hA g BA
   have rM : (af.fJ g = false \/ (1 < gs.length /\ (i = 0 /\ 3 < g.length \/ 0 < i /\ g.length ≠ 3))) -> ok = false /\ N = ⟨false, 0, 0⟩ := fun h => hbad i g hg (fun h' => by
    rcases h with h | h
    ·obtain ⟨g1, -⟩ := h'
     rw [h] at g1; cases g1
    ·obtain ⟨-, g2⟩ := h'
     exact g2 h)
   have hgood : af.fJ g = true -> ¬ (1 < gs.length /\ (i = 0 /\ 3 < g.length \/ 0 < i /\ g.length ≠ 3)) -> ∀ j g', j < i + 1 -> gs[j]? = some g' -> af.bJ gs.length j g' := fun h1 h2 j g' hj hg' => by
    by_cases e : j = i
    ·subst e
     rw [hg] at hg'; cases hg'
     exact ⟨h1, h2⟩
    ·exact fB j g' (by omega) hg'
   generalize af.fJ g = AD at *
   clear hbad hA hR hE hF hok fB
   repeat' (first | exact ⟨⟩ | refine yG ?_ ?_ | refine yA (.bool AD) (fun _ => A) ?_ | refine yO (aJ underlying121) ?_ | refine yN (j := i) underlying121 sizeOf9 ?_ | refine yO (v := .str g) (aP 1 (.str g) (fun w => isAgg9 w) rfl (fun β => hld)) ?_ | intro _)
   all_goals first | (exfalso; omega) | (obtain ⟨rfl, rfl⟩ := rM (by first | (left; simpa using (by assumption : (!AD) = true)) | (right; omega)); (refine ret fun β w' hm => ?_; exact ⟨⟨false, 0, 0, none, 0, none, 0⟩, by simp [bI.val, ae.aT, SV.den, SV.aF], rfl, dM, sW, hm.below⟩)) | (refine hI _ ⟨(i + 1, acc ++ g), by dsimp only; omega, by dsimp only; rw [hnx], hgood (by simpa using (by assumption : (!AD) = false)) (by omega)⟩ (by dsimp only; omega) yW; done)
  ·have e : i = gs.length := by omega
   subst e
   rw [List.take_length] at hacc
   have hall : ∀ j g, gs[j]? = some g -> af.bJ gs.length j g := fun j g hg => fB j g (List.getElem?_eq_some_iff.1 hg).1 hg
   replace hR := hR hall
   replace hE := hE hall
   replace hok := hok hall
   rw [<- hv, <- hacc] at hR
   clear hbad hA fB
   obtain ⟨m0, n0, d0⟩ := N0
   by_cases hE0 : E0 = 0
   ·obtain ⟨rfl, hok2⟩ := hok hE0
    rw [hok2]
    replace hF := hF hall hE0
    repeat' (first | exact ⟨⟩ | refine yG ?_ ?_ | (refine eG .i64 10 ⟨m0, n0, d0⟩ E0 hw0 (by kernel_rfl) rfl (fun β w' hm => hR w' hm.below) (fun a1 c1 a2 c2 hc1 => ?_)) | refine yK (.bg [.agg [.str F1, .str F2], .int .i64 E1]) (fun β w hm => hF ⟨m0, n0, d0, a1, c1, a2, c2⟩ w hm.below (aX.of (hm.dS 2 rfl) (hm.dS 3 rfl) hc1) rfl) ?_ | ((with_reducible show ∃ _, _); first | (refine ⟨k, rfl, by omega, ?_⟩)) | intro _)
    all_goals first | (exfalso; omega) | (refine ret fun β w' hm => ?_; exact ⟨⟨m0, n0, d0, a1, c1, a2, c2⟩, rfl, rfl, hc1, oK (hm.dS 2 rfl) (hm.di 2 rfl rfl) (hm.dS 3 rfl) (hm.di 3 rfl rfl), hm.below⟩)
   ·obtain ⟨hok2, xU⟩ := hE hE0
    rw [hok2, xU]
    repeat' (first | exact ⟨⟩ | refine yG ?_ ?_ | (refine eG .i64 10 ⟨m0, n0, d0⟩ E0 hw0 (by kernel_rfl) rfl (fun β w' hm => hR w' hm.below) (fun a1 c1 a2 c2 hc1 => ?_)) | ((with_reducible show ∃ _, _); first | (refine ⟨k, rfl, by omega, ?_⟩)) | intro _)
    all_goals first | (exfalso; omega) | (refine ret fun β w' hm => ?_; exact ⟨⟨false, 0, 0, none, 0, none, 0⟩, by simp [bI.val, ae.aT, SV.den, SV.aF], rfl, dM, sW, hm.below⟩)
theorem DC (c : UInt8) (r u v : List UInt8) (gs : List (List UInt8)) (k : Nat) (w : World) (hw0 : 0 < w.heap.size) (hl : r.length <= 100000) (hc : (c.toNat : Int) = 43) (hq0 : (List.drop 1 (c :: r)) ≠ []) (hq : (((List.drop 1 (c :: r)).getD ((List.drop 1 (c :: r)).length - 1) 0).toNat : Int) = 37) (hQ : u ++ v = (List.take ((List.drop 1 (c :: r)).length - 1) (List.drop 1 (c :: r)))) (hk : k = u.length) (hgl : gs.flatten.length <= 100000) (hgn : gs.length <= 1000000)
  (hM : ∀ w' : World, QC 122 #[.string (ah (c :: r)), .string (ah [45])] w' (.bool false))
  (hP : ∀ w' : World, QC 122 #[.string (ah (c :: r)), .string (ah [43])] w' (.bool true))
  (hS : ∀ w' : World, QC 123 #[.string (ah (List.take ((List.drop 1 (c :: r)).length - 1) (List.drop 1 (c :: r)))), .func (.func 124) #[] #[]] w' (.int .i64 (k : Nat)))
  (hL : ∀ w' : World, Calls Tryz.prog 126 #[.string (ah u), .int .u8 44] w' fun e w'' => BW w' w'' /\ ∃ t : Nat × Nat, e = .returned (.slice (some ⟨t.1, 0, none⟩) gs.length t.2) /\ ∀ q ∈ [((some ⟨t.1, 0, none⟩ : Option Addr), bP gs)], aS q.1 q.2 w'' /\ bz q.1 q.2 w')
  (hA : ∀ (g : List UInt8), g.length <= 100000 -> ∀ w' : World, QC 127 #[.string (ah g)] w' (.bool (af.fJ g)))
  (N : ae.Num) (ok : Bool) (hbad : ∀ i g, gs[i]? = some g -> ¬ af.bJ gs.length i g -> ok = false /\ N = ⟨false, 0, 0⟩)
  (N0 : ae.Num) (E0 E1 : Int) (hR : (∀ i g, gs[i]? = some g -> af.bJ gs.length i g) -> ∀ w', BW w w' -> Calls Tryz.prog 128 #[.string (ah ([] ++ gs.flatten ++ v))] w' (iC .i64 10 N0 E0 w'))
  (hE : (∀ i g, gs[i]? = some g -> af.bJ gs.length i g) -> E0 ≠ 0 -> ok = false /\ N = ⟨false, 0, 0⟩)
  (hX : (∀ i g, gs[i]? = some g -> af.bJ gs.length i g) -> E0 = 0 -> uJ w N0 fun x w' => Calls Tryz.prog 129 #[x.val 10, .int .i64 (-2)] w' (vN (Lz x.n x.a (Lz x.d x.b [])) .i64 10 N w'))
  (F1 F2 : List UInt8) (hF : (∀ i g, gs[i]? = some g -> af.bJ gs.length i g) -> E0 = 0 -> uJ w N fun x w' => Calls Tryz.prog 103 #[x.val 10] w' (fQ (F1, F2) E1 w'))
  (hok : (∀ i g, gs[i]? = some g -> af.bJ gs.length i g) -> E0 = 0 -> ok = decide (E1 = 0)) :
  Calls Tryz.prog 63 #[.string (ah (c :: r))] w (dU .i64 10 N ok w) := by
 have hc' := c.toNat_lt
 have hkl : k <= (List.take ((List.drop 1 (c :: r)).length - 1) (List.drop 1 (c :: r))).length := by rw [<- hQ, hk, List.length_append]; omega
 have hu : List.take k (List.take ((List.drop 1 (c :: r)).length - 1) (List.drop 1 (c :: r))) = u := by rw [<- hQ, hk]; simp
 have hv : List.drop k (List.take ((List.drop 1 (c :: r)).length - 1) (List.drop 1 (c :: r))) = v := by rw [<- hQ, hk]; simp
 have U6 : (c :: r).length <= 100001 := by simp; omega
 have KW : 1 <= (c :: r).length := by simp
 have hdl : (List.drop 1 (c :: r)).length <= 100000 := by simpa using hl
 have hgd : (c :: r).getD 0 0 = c := rfl
 have YW := hq
 simp at YW
 have hvl : (List.drop k (List.take ((List.drop 1 (c :: r)).length - 1) (List.drop 1 (c :: r)))).length <= 100001 := by rw [List.length_drop, List.length_take]; omega
 have Ry : (List.take ((List.drop 1 (c :: r)).length - 1) (List.drop 1 (c :: r))).length <= 100001 := by rw [List.length_take]; omega
 refine yE func63 rfl results63 ntmps63 [] [] [.str (c :: r)] w ?_
 repeat' (first | exact ⟨⟩ | refine yG ?_ ?_ | refine yA (.lit false) (fun _ => hM) ?_ | refine yA (.lit true) (fun _ => hP) ?_ | refine yA (.int .i64 (k : Nat)) (fun _ => hS) ?_ | (refine bT (T := Nat × Nat) (fun t => .any (.slice (some ⟨t.1, 0, none⟩) gs.length t.2)) (fun t => [(some ⟨t.1, 0, none⟩, bP gs)]) hw0 (by kernel_rfl) rfl (fun _ => rfl) (fun β w' hm => (by first | exact hL w' | (rw [<- hu] at hL; exact hL w'))) (fun p _ => ?_)) | ((with_reducible show ∃ _ : SV, _); first | (refine ⟨.lit false, by kernel_rfl, trivial, fun β w hm => hM w, ?_⟩) | (refine ⟨.lit true, by kernel_rfl, trivial, fun β w hm => hP w, ?_⟩) | refine yO (aJ underlying121) ?_) | ((with_reducible show ∃ _, _); first | (refine ⟨0, rfl, by simp, ?_⟩) | (refine ⟨1, rfl, by simp, ?_⟩) | (refine ⟨k, rfl, by omega, ?_⟩) | (refine ⟨(List.drop 1 (c :: r)).length - 1, by have := List.length_pos_iff.2 (by assumption : ¬ (List.drop 1 (c :: r)) = []); omega, by have := List.length_pos_iff.2 (by assumption : ¬ (List.drop 1 (c :: r)) = []); omega, ?_⟩)) | intro _)
 all_goals first | (exfalso; rw [hgd] at *; omega) | (exfalso; contradiction) | (exfalso; exact hq0 (Decidable.not_not.1 (by assumption))) | (exfalso; rcases hq with h | h <;> contradiction) | skip
 all_goals
  clear hM hP hS hL hu hQ hgd
  refine yZ (T := {t : Nat × List UInt8 // t.1 <= gs.length /\ t.2 = (gs.take t.1).flatten /\ ∀ j g, j < t.1 -> gs[j]? = some g -> af.bJ gs.length j g}) (fun t => ⟨[(0, .str (List.take ((List.drop 1 (c :: r)).length - 1) (List.drop 1 (c :: r)))), (2, .ptr 0 0), (4, .str []), (5, .lit true), (6, .int .i64 (k : Nat)), (7, .any (.slice (some ⟨p.1, 0, none⟩) gs.length p.2)), (8, .str t.1.2), (46, .any (.slice (some ⟨p.1, 0, none⟩) gs.length p.2)), (47, .int .i64 (gs.length : Nat)), (48, .int .i64 (t.1.1 : Nat))], [(0, true, .cells 72 [.lit false, .any (.slice none 0 0), .any (.slice none 0 0)]), (1, false, .aK (bV w.heap.size (some ⟨p.1, 0, none⟩) (bP gs)))], 2, 109⟩) (fun t => gs.length - t.1.1) ⟨(0, []), Nat.zero_le _, by simp, fun j g h => by omega⟩ [] [] (fun t I hI => ?_) (by ((with_reducible show wk _ _); repeat' (first | exact trivial | exact au _ | refine eY ?_ | refine eqS ?_ | apply And.intro | exact yV | fail)); all_goals first | exact fun b x h => h | (simp_all [fK, IK, rf]; done))
  obtain ⟨⟨i, acc⟩, hi, hacc, fB⟩ := t
  dsimp only at hi hacc fB hI ⊢
  have hal : acc.length <= 100000 := by rw [hacc]; exact Nat.le_trans (dE gs i) hgl
  by_cases hlt : i < gs.length
  ·obtain ⟨g, hg⟩ : ∃ g, gs[i]? = some g := ⟨gs[i], List.getElem?_eq_getElem hlt⟩
   have hld := pX hg
   have hnx := mG hg
   rw [<- hacc] at hnx
   have BA : g.length <= 100000 := by
    have h1 := dE gs (i + 1)
    rw [hnx, List.length_append] at h1
    omega
   have A := hA g BA
   have rM : (af.fJ g = false \/ (1 < gs.length /\ (i = 0 /\ 3 < g.length \/ 0 < i /\ g.length ≠ 3))) -> ok = false /\ N = ⟨false, 0, 0⟩ := fun h => hbad i g hg (fun h' => by
    rcases h with h | h
    ·obtain ⟨g1, -⟩ := h'
     rw [h] at g1; cases g1
    ·obtain ⟨-, g2⟩ := h'
     exact g2 h)
   have hgood : af.fJ g = true -> ¬ (1 < gs.length /\ (i = 0 /\ 3 < g.length \/ 0 < i /\ g.length ≠ 3)) -> ∀ j g', j < i + 1 -> gs[j]? = some g' -> af.bJ gs.length j g' := fun h1 h2 j g' hj hg' => by
    by_cases e : j = i
    ·subst e
     rw [hg] at hg'; cases hg'
     exact ⟨h1, h2⟩
    ·exact fB j g' (by omega) hg'
   generalize af.fJ g = AD at *
   clear hbad hA hR hE hF hok fB
   clear hX
   repeat' (first | exact ⟨⟩ | refine yG ?_ ?_ | refine yA (.bool AD) (fun _ => A) ?_ | refine yO (aJ underlying121) ?_ | refine yN (j := i) underlying121 sizeOf9 ?_ | refine yO (v := .str g) (aP 1 (.str g) (fun w => isAgg9 w) rfl (fun β => hld)) ?_ | intro _)
   all_goals first | (exfalso; omega) | (obtain ⟨rfl, rfl⟩ := rM (by first | (left; simpa using (by assumption : (!AD) = true)) | (right; omega)); (refine ret fun β w' hm => ?_; exact ⟨⟨false, 0, 0, none, 0, none, 0⟩, by simp [bI.val, ae.aT, SV.den, SV.aF], rfl, dM, sW, hm.below⟩)) | (refine hI _ ⟨(i + 1, acc ++ g), by dsimp only; omega, by dsimp only; rw [hnx], hgood (by simpa using (by assumption : (!AD) = false)) (by omega)⟩ (by dsimp only; omega) yW; done)
  ·have e : i = gs.length := by omega
   subst e
   rw [List.take_length] at hacc
   have hall : ∀ j g, gs[j]? = some g -> af.bJ gs.length j g := fun j g hg => fB j g (List.getElem?_eq_some_iff.1 hg).1 hg
   replace hR := hR hall
   replace hE := hE hall
   replace hok := hok hall
   rw [<- hv, <- hacc] at hR
   clear hbad hA fB
   obtain ⟨m0, n0, d0⟩ := N0
   by_cases hE0 : E0 = 0
   ·have hok2 := hok hE0
    rw [hok2]
    replace hX := hX hall hE0
    replace hF := hF hall hE0
    obtain ⟨m1, n1, d1⟩ := N
    repeat' (first | exact ⟨⟩ | refine yG ?_ ?_ | (refine eG .i64 10 ⟨m0, n0, d0⟩ E0 hw0 (by kernel_rfl) rfl (fun β w' hm => hR w' hm.below) (fun a1 c1 a2 c2 hc1 => ?_)) | (refine Ad (Lz n0 a1 (Lz d0 a2 [])) .i64 10 ⟨m1, n1, d1⟩ hw0 (by kernel_rfl) rfl (oz 2 (Nat.le_of_ble_eq_true rfl) rfl (oz 3 (Nat.le_of_ble_eq_true rfl) rfl Ai)) (fun β w' hm => hX ⟨m0, n0, d0, a1, c1, a2, c2⟩ w' hm.below (aX.of (hm.dS 2 rfl) (hm.dS 3 rfl) hc1) rfl) (fun a3 c3 a4 c4 hc2 => ?_)) | refine yK (.bg [.agg [.str F1, .str F2], .int .i64 E1]) (fun β w hm => hF ⟨m1, n1, d1, a3, c3, a4, c4⟩ w hm.below (aX.of (df hm) (df hm) hc2) rfl) ?_ | ((with_reducible show ∃ _, _); first | (refine ⟨k, rfl, by omega, ?_⟩)) | intro _)
    all_goals first | (exfalso; omega) | (refine ret fun β w' hm => ?_; first | exact ⟨⟨m1, n1, d1, a3, c3, a4, c4⟩, rfl, rfl, hc2, oK (hm.dS 5 rfl) (hm.di 5 rfl rfl) (hm.dS 6 rfl) (hm.di 6 rfl rfl), hm.below⟩ | exact ⟨⟨m1, n1, d1, a3, c3, a4, c4⟩, rfl, rfl, hc2, oK (hm.dS 4 rfl) (hm.di 4 rfl rfl) (hm.dS 5 rfl) (hm.di 5 rfl rfl), hm.below⟩)
   ·obtain ⟨hok2, xU⟩ := hE hE0
    rw [hok2, xU]
    repeat' (first | exact ⟨⟩ | refine yG ?_ ?_ | (refine eG .i64 10 ⟨m0, n0, d0⟩ E0 hw0 (by kernel_rfl) rfl (fun β w' hm => hR w' hm.below) (fun a1 c1 a2 c2 hc1 => ?_)) | ((with_reducible show ∃ _, _); first | (refine ⟨k, rfl, by omega, ?_⟩)) | intro _)
    all_goals first | (exfalso; omega) | (refine ret fun β w' hm => ?_; exact ⟨⟨false, 0, 0, none, 0, none, 0⟩, by simp [bI.val, ae.aT, SV.den, SV.aF], rfl, dM, sW, hm.below⟩)
theorem Gn (c : UInt8) (r u v : List UInt8) (gs : List (List UInt8)) (k : Nat) (w : World) (hw0 : 0 < w.heap.size) (hl : r.length <= 100000) (hc : (c.toNat : Int) = 43) (hq : (List.drop 1 (c :: r)) = [] \/ ¬ (((List.drop 1 (c :: r)).getD ((List.drop 1 (c :: r)).length - 1) 0).toNat : Int) = 37) (hQ : u ++ v = (List.drop 1 (c :: r))) (hk : k = u.length) (hgl : gs.flatten.length <= 100000) (hgn : gs.length <= 1000000)
  (hM : ∀ w' : World, QC 122 #[.string (ah (c :: r)), .string (ah [45])] w' (.bool false))
  (hP : ∀ w' : World, QC 122 #[.string (ah (c :: r)), .string (ah [43])] w' (.bool true))
  (hS : ∀ w' : World, QC 123 #[.string (ah (List.drop 1 (c :: r))), .func (.func 124) #[] #[]] w' (.int .i64 (k : Nat)))
  (hL : ∀ w' : World, Calls Tryz.prog 126 #[.string (ah u), .int .u8 44] w' fun e w'' => BW w' w'' /\ ∃ t : Nat × Nat, e = .returned (.slice (some ⟨t.1, 0, none⟩) gs.length t.2) /\ ∀ q ∈ [((some ⟨t.1, 0, none⟩ : Option Addr), bP gs)], aS q.1 q.2 w'' /\ bz q.1 q.2 w')
  (hA : ∀ (g : List UInt8), g.length <= 100000 -> ∀ w' : World, QC 127 #[.string (ah g)] w' (.bool (af.fJ g)))
  (N : ae.Num) (ok : Bool) (hbad : ∀ i g, gs[i]? = some g -> ¬ af.bJ gs.length i g -> ok = false /\ N = ⟨false, 0, 0⟩)
  (N0 : ae.Num) (E0 E1 : Int) (hR : (∀ i g, gs[i]? = some g -> af.bJ gs.length i g) -> ∀ w', BW w w' -> Calls Tryz.prog 128 #[.string (ah ([] ++ gs.flatten ++ v))] w' (iC .i64 10 N0 E0 w'))
  (hE : (∀ i g, gs[i]? = some g -> af.bJ gs.length i g) -> E0 ≠ 0 -> ok = false /\ N = ⟨false, 0, 0⟩)
  (F1 F2 : List UInt8) (hF : (∀ i g, gs[i]? = some g -> af.bJ gs.length i g) -> E0 = 0 -> uJ w N0 fun x w' => Calls Tryz.prog 103 #[x.val 10] w' (fQ (F1, F2) E1 w'))
  (hok : (∀ i g, gs[i]? = some g -> af.bJ gs.length i g) -> E0 = 0 -> N = N0 /\ ok = decide (E1 = 0)) :
  Calls Tryz.prog 63 #[.string (ah (c :: r))] w (dU .i64 10 N ok w) := by
 have hc' := c.toNat_lt
 have hkl : k <= (List.drop 1 (c :: r)).length := by rw [<- hQ, hk, List.length_append]; omega
 have hu : List.take k (List.drop 1 (c :: r)) = u := by rw [<- hQ, hk]; simp
 have hv : List.drop k (List.drop 1 (c :: r)) = v := by rw [<- hQ, hk]; simp
 have U6 : (c :: r).length <= 100001 := by simp; omega
 have KW : 1 <= (c :: r).length := by simp
 have hdl : (List.drop 1 (c :: r)).length <= 100000 := by simpa using hl
 have hgd : (c :: r).getD 0 0 = c := rfl
 have hvl : (List.drop k (List.drop 1 (c :: r))).length <= 100001 := by rw [List.length_drop]; omega
 have Ry : (List.drop 1 (c :: r)).length <= 100001 := by omega
 refine yE func63 rfl results63 ntmps63 [] [] [.str (c :: r)] w ?_
 repeat' (first | exact ⟨⟩ | refine yG ?_ ?_ | refine yA (.lit false) (fun _ => hM) ?_ | refine yA (.lit true) (fun _ => hP) ?_ | refine yA (.int .i64 (k : Nat)) (fun _ => hS) ?_ | (refine bT (T := Nat × Nat) (fun t => .any (.slice (some ⟨t.1, 0, none⟩) gs.length t.2)) (fun t => [(some ⟨t.1, 0, none⟩, bP gs)]) hw0 (by kernel_rfl) rfl (fun _ => rfl) (fun β w' hm => (by first | exact hL w' | (rw [<- hu] at hL; exact hL w'))) (fun p _ => ?_)) | ((with_reducible show ∃ _ : SV, _); first | (refine ⟨.lit false, by kernel_rfl, trivial, fun β w hm => hM w, ?_⟩) | (refine ⟨.lit true, by kernel_rfl, trivial, fun β w hm => hP w, ?_⟩) | refine yO (aJ underlying121) ?_) | ((with_reducible show ∃ _, _); first | (refine ⟨0, rfl, by simp, ?_⟩) | (refine ⟨1, rfl, by simp, ?_⟩) | (refine ⟨k, rfl, by omega, ?_⟩) | (refine ⟨(List.drop 1 (c :: r)).length - 1, by have := List.length_pos_iff.2 (by assumption : ¬ (List.drop 1 (c :: r)) = []); omega, by have := List.length_pos_iff.2 (by assumption : ¬ (List.drop 1 (c :: r)) = []); omega, ?_⟩)) | intro _)
 all_goals first | (exfalso; rw [hgd] at *; omega) | (exfalso; contradiction) | (exfalso; exact hq0 (Decidable.not_not.1 (by assumption))) | (exfalso; rcases hq with h | h <;> contradiction) | skip
 all_goals
  clear hM hP hS hL hu hQ hgd
  refine yZ (T := {t : Nat × List UInt8 // t.1 <= gs.length /\ t.2 = (gs.take t.1).flatten /\ ∀ j g, j < t.1 -> gs[j]? = some g -> af.bJ gs.length j g}) (fun t => ⟨[(0, .str (List.drop 1 (c :: r))), (2, .ptr 0 0), (4, .str []), (5, .lit false), (6, .int .i64 (k : Nat)), (7, .any (.slice (some ⟨p.1, 0, none⟩) gs.length p.2)), (8, .str t.1.2), (46, .any (.slice (some ⟨p.1, 0, none⟩) gs.length p.2)), (47, .int .i64 (gs.length : Nat)), (48, .int .i64 (t.1.1 : Nat))], [(0, true, .cells 72 [.lit false, .any (.slice none 0 0), .any (.slice none 0 0)]), (1, false, .aK (bV w.heap.size (some ⟨p.1, 0, none⟩) (bP gs)))], 2, 109⟩) (fun t => gs.length - t.1.1) ⟨(0, []), Nat.zero_le _, by simp, fun j g h => by omega⟩ [] [] (fun t I hI => ?_) (by ((with_reducible show wk _ _); repeat' (first | exact trivial | exact au _ | refine eY ?_ | refine eqS ?_ | apply And.intro | exact yV | fail)); all_goals first | exact fun b x h => h | (simp_all [fK, IK, rf]; done))
  obtain ⟨⟨i, acc⟩, hi, hacc, fB⟩ := t
  dsimp only at hi hacc fB hI ⊢
  have hal : acc.length <= 100000 := by rw [hacc]; exact Nat.le_trans (dE gs i) hgl
  by_cases hlt : i < gs.length
  ·obtain ⟨g, hg⟩ : ∃ g, gs[i]? = some g := ⟨gs[i], List.getElem?_eq_getElem hlt⟩
   have hld := pX hg
   have hnx := mG hg
   rw [<- hacc] at hnx
   have BA : g.length <= 100000 := by
    have h1 := dE gs (i + 1)
    rw [hnx, List.length_append] at h1
    omega
   have A := hA g BA
   have rM : (af.fJ g = false \/ (1 < gs.length /\ (i = 0 /\ 3 < g.length \/ 0 < i /\ g.length ≠ 3))) -> ok = false /\ N = ⟨false, 0, 0⟩ := fun h => hbad i g hg (fun h' => by
    rcases h with h | h
    ·obtain ⟨g1, -⟩ := h'
     rw [h] at g1; cases g1
    ·obtain ⟨-, g2⟩ := h'
     exact g2 h)
   have hgood : af.fJ g = true -> ¬ (1 < gs.length /\ (i = 0 /\ 3 < g.length \/ 0 < i /\ g.length ≠ 3)) -> ∀ j g', j < i + 1 -> gs[j]? = some g' -> af.bJ gs.length j g' := fun h1 h2 j g' hj hg' => by
    by_cases e : j = i
    ·subst e
     rw [hg] at hg'; cases hg'
     exact ⟨h1, h2⟩
    ·exact fB j g' (by omega) hg'
   generalize af.fJ g = AD at *
   clear hbad hA hR hE hF hok fB
   repeat' (first | exact ⟨⟩ | refine yG ?_ ?_ | refine yA (.bool AD) (fun _ => A) ?_ | refine yO (aJ underlying121) ?_ | refine yN (j := i) underlying121 sizeOf9 ?_ | refine yO (v := .str g) (aP 1 (.str g) (fun w => isAgg9 w) rfl (fun β => hld)) ?_ | intro _)
   all_goals first | (exfalso; omega) | (obtain ⟨rfl, rfl⟩ := rM (by first | (left; simpa using (by assumption : (!AD) = true)) | (right; omega)); (refine ret fun β w' hm => ?_; exact ⟨⟨false, 0, 0, none, 0, none, 0⟩, by simp [bI.val, ae.aT, SV.den, SV.aF], rfl, dM, sW, hm.below⟩)) | (refine hI _ ⟨(i + 1, acc ++ g), by dsimp only; omega, by dsimp only; rw [hnx], hgood (by simpa using (by assumption : (!AD) = false)) (by omega)⟩ (by dsimp only; omega) yW; done)
  ·have e : i = gs.length := by omega
   subst e
   rw [List.take_length] at hacc
   have hall : ∀ j g, gs[j]? = some g -> af.bJ gs.length j g := fun j g hg => fB j g (List.getElem?_eq_some_iff.1 hg).1 hg
   replace hR := hR hall
   replace hE := hE hall
   replace hok := hok hall
   rw [<- hv, <- hacc] at hR
   clear hbad hA fB
   obtain ⟨m0, n0, d0⟩ := N0
   by_cases hE0 : E0 = 0
   ·obtain ⟨rfl, hok2⟩ := hok hE0
    rw [hok2]
    replace hF := hF hall hE0
    repeat' (first | exact ⟨⟩ | refine yG ?_ ?_ | (refine eG .i64 10 ⟨m0, n0, d0⟩ E0 hw0 (by kernel_rfl) rfl (fun β w' hm => hR w' hm.below) (fun a1 c1 a2 c2 hc1 => ?_)) | refine yK (.bg [.agg [.str F1, .str F2], .int .i64 E1]) (fun β w hm => hF ⟨m0, n0, d0, a1, c1, a2, c2⟩ w hm.below (aX.of (hm.dS 2 rfl) (hm.dS 3 rfl) hc1) rfl) ?_ | ((with_reducible show ∃ _, _); first | (refine ⟨k, rfl, by omega, ?_⟩)) | intro _)
    all_goals first | (exfalso; omega) | (refine ret fun β w' hm => ?_; exact ⟨⟨m0, n0, d0, a1, c1, a2, c2⟩, rfl, rfl, hc1, oK (hm.dS 2 rfl) (hm.di 2 rfl rfl) (hm.dS 3 rfl) (hm.di 3 rfl rfl), hm.below⟩)
   ·obtain ⟨hok2, xU⟩ := hE hE0
    rw [hok2, xU]
    repeat' (first | exact ⟨⟩ | refine yG ?_ ?_ | (refine eG .i64 10 ⟨m0, n0, d0⟩ E0 hw0 (by kernel_rfl) rfl (fun β w' hm => hR w' hm.below) (fun a1 c1 a2 c2 hc1 => ?_)) | ((with_reducible show ∃ _, _); first | (refine ⟨k, rfl, by omega, ?_⟩)) | intro _)
    all_goals first | (exfalso; omega) | (refine ret fun β w' hm => ?_; exact ⟨⟨false, 0, 0, none, 0, none, 0⟩, by simp [bI.val, ae.aT, SV.den, SV.aF], rfl, dM, sW, hm.below⟩)
theorem Dz (c : UInt8) (r u v : List UInt8) (gs : List (List UInt8)) (k : Nat) (w : World) (hw0 : 0 < w.heap.size) (hl : r.length <= 100000) (hc : (c.toNat : Int) ≠ 45 /\ (c.toNat : Int) ≠ 43) (hq0 : (c :: r) ≠ []) (hq : (((c :: r).getD ((c :: r).length - 1) 0).toNat : Int) = 37) (hQ : u ++ v = (List.take ((c :: r).length - 1) (c :: r))) (hk : k = u.length) (hgl : gs.flatten.length <= 100000) (hgn : gs.length <= 1000000)
  (hM : ∀ w' : World, QC 122 #[.string (ah (c :: r)), .string (ah [45])] w' (.bool false))
  (hP : ∀ w' : World, QC 122 #[.string (ah (c :: r)), .string (ah [43])] w' (.bool false))
  (hS : ∀ w' : World, QC 123 #[.string (ah (List.take ((c :: r).length - 1) (c :: r))), .func (.func 124) #[] #[]] w' (.int .i64 (k : Nat)))
  (hL : ∀ w' : World, Calls Tryz.prog 126 #[.string (ah u), .int .u8 44] w' fun e w'' => BW w' w'' /\ ∃ t : Nat × Nat, e = .returned (.slice (some ⟨t.1, 0, none⟩) gs.length t.2) /\ ∀ q ∈ [((some ⟨t.1, 0, none⟩ : Option Addr), bP gs)], aS q.1 q.2 w'' /\ bz q.1 q.2 w')
  (hA : ∀ (g : List UInt8), g.length <= 100000 -> ∀ w' : World, QC 127 #[.string (ah g)] w' (.bool (af.fJ g)))
  (N : ae.Num) (ok : Bool) (hbad : ∀ i g, gs[i]? = some g -> ¬ af.bJ gs.length i g -> ok = false /\ N = ⟨false, 0, 0⟩)
  (N0 : ae.Num) (E0 E1 : Int) (hR : (∀ i g, gs[i]? = some g -> af.bJ gs.length i g) -> ∀ w', BW w w' -> Calls Tryz.prog 128 #[.string (ah ([] ++ gs.flatten ++ v))] w' (iC .i64 10 N0 E0 w'))
  (hE : (∀ i g, gs[i]? = some g -> af.bJ gs.length i g) -> E0 ≠ 0 -> ok = false /\ N = ⟨false, 0, 0⟩)
  (hX : (∀ i g, gs[i]? = some g -> af.bJ gs.length i g) -> E0 = 0 -> uJ w N0 fun x w' => Calls Tryz.prog 129 #[x.val 10, .int .i64 (-2)] w' (vN (Lz x.n x.a (Lz x.d x.b [])) .i64 10 N w'))
  (F1 F2 : List UInt8) (hF : (∀ i g, gs[i]? = some g -> af.bJ gs.length i g) -> E0 = 0 -> uJ w N fun x w' => Calls Tryz.prog 103 #[x.val 10] w' (fQ (F1, F2) E1 w'))
  (hok : (∀ i g, gs[i]? = some g -> af.bJ gs.length i g) -> E0 = 0 -> ok = decide (E1 = 0)) :
  Calls Tryz.prog 63 #[.string (ah (c :: r))] w (dU .i64 10 N ok w) := by
 have hc' := c.toNat_lt
 have hkl : k <= (List.take ((c :: r).length - 1) (c :: r)).length := by rw [<- hQ, hk, List.length_append]; omega
 have hu : List.take k (List.take ((c :: r).length - 1) (c :: r)) = u := by rw [<- hQ, hk]; simp
 have hv : List.drop k (List.take ((c :: r).length - 1) (c :: r)) = v := by rw [<- hQ, hk]; simp
 have U6 : (c :: r).length <= 100001 := by simp; omega
 have KW : 1 <= (c :: r).length := by simp
 have hdl : (List.drop 1 (c :: r)).length <= 100000 := by simpa using hl
 have hgd : (c :: r).getD 0 0 = c := rfl
 have YW := hq
 simp at YW
 have hvl : (List.drop k (List.take ((c :: r).length - 1) (c :: r))).length <= 100001 := by rw [List.length_drop, List.length_take]; omega
 have Ry : (List.take ((c :: r).length - 1) (c :: r)).length <= 100001 := by rw [List.length_take]; omega
 refine yE func63 rfl results63 ntmps63 [] [] [.str (c :: r)] w ?_
 repeat' (first | exact ⟨⟩ | refine yG ?_ ?_ | refine yA (.lit false) (fun _ => hM) ?_ | refine yA (.lit false) (fun _ => hP) ?_ | refine yA (.int .i64 (k : Nat)) (fun _ => hS) ?_ | (refine bT (T := Nat × Nat) (fun t => .any (.slice (some ⟨t.1, 0, none⟩) gs.length t.2)) (fun t => [(some ⟨t.1, 0, none⟩, bP gs)]) hw0 (by kernel_rfl) rfl (fun _ => rfl) (fun β w' hm => (by first | exact hL w' | (rw [<- hu] at hL; exact hL w'))) (fun p _ => ?_)) | ((with_reducible show ∃ _ : SV, _); first | (refine ⟨.lit false, by kernel_rfl, trivial, fun β w hm => hM w, ?_⟩) | (refine ⟨.lit false, by kernel_rfl, trivial, fun β w hm => hP w, ?_⟩) | refine yO (aJ underlying121) ?_) | ((with_reducible show ∃ _, _); first | (refine ⟨0, rfl, by simp, ?_⟩) | (refine ⟨1, rfl, by simp, ?_⟩) | (refine ⟨k, rfl, by omega, ?_⟩) | (refine ⟨(c :: r).length - 1, by omega, by omega, ?_⟩)) | intro _)
 all_goals first | (exfalso; rw [hgd] at *; omega) | (exfalso; contradiction) | (exfalso; exact hq0 (Decidable.not_not.1 (by assumption))) | (exfalso; rcases hq with h | h <;> contradiction) | skip
 all_goals
  clear hM hP hS hL hu hQ hgd
  refine yZ (T := {t : Nat × List UInt8 // t.1 <= gs.length /\ t.2 = (gs.take t.1).flatten /\ ∀ j g, j < t.1 -> gs[j]? = some g -> af.bJ gs.length j g}) (fun t => ⟨[(0, .str (List.take ((c :: r).length - 1) (c :: r))), (2, .ptr 0 0), (4, .str []), (5, .lit true), (6, .int .i64 (k : Nat)), (7, .any (.slice (some ⟨p.1, 0, none⟩) gs.length p.2)), (8, .str t.1.2), (46, .any (.slice (some ⟨p.1, 0, none⟩) gs.length p.2)), (47, .int .i64 (gs.length : Nat)), (48, .int .i64 (t.1.1 : Nat))], [(0, true, .cells 72 [.lit false, .any (.slice none 0 0), .any (.slice none 0 0)]), (1, false, .aK (bV w.heap.size (some ⟨p.1, 0, none⟩) (bP gs)))], 2, 109⟩) (fun t => gs.length - t.1.1) ⟨(0, []), Nat.zero_le _, by simp, fun j g h => by omega⟩ [] [] (fun t I hI => ?_) (by ((with_reducible show wk _ _); repeat' (first | exact trivial | exact au _ | refine eY ?_ | refine eqS ?_ | apply And.intro | exact yV | fail)); all_goals first | exact fun b x h => h | (simp_all [fK, IK, rf]; done))
  obtain ⟨⟨i, acc⟩, hi, hacc, fB⟩ := t
  dsimp only at hi hacc fB hI ⊢
  have hal : acc.length <= 100000 := by rw [hacc]; exact Nat.le_trans (dE gs i) hgl
  by_cases hlt : i < gs.length
  ·obtain ⟨g, hg⟩ : ∃ g, gs[i]? = some g := ⟨gs[i], List.getElem?_eq_getElem hlt⟩
   have hld := pX hg
   have hnx := mG hg
   rw [<- hacc] at hnx
   have BA : g.length <= 100000 := by
    have h1 := dE gs (i + 1)
    rw [hnx, List.length_append] at h1
    omega
   have A := hA g BA
   have rM : (af.fJ g = false \/ (1 < gs.length /\ (i = 0 /\ 3 < g.length \/ 0 < i /\ g.length ≠ 3))) -> ok = false /\ N = ⟨false, 0, 0⟩ := fun h => hbad i g hg (fun h' => by
    rcases h with h | h
    ·obtain ⟨g1, -⟩ := h'
     rw [h] at g1; cases g1
    ·obtain ⟨-, g2⟩ := h'
     exact g2 h)
   have hgood : af.fJ g = true -> ¬ (1 < gs.length /\ (i = 0 /\ 3 < g.length \/ 0 < i /\ g.length ≠ 3)) -> ∀ j g', j < i + 1 -> gs[j]? = some g' -> af.bJ gs.length j g' := fun h1 h2 j g' hj hg' => by
    by_cases e : j = i
    ·subst e
     rw [hg] at hg'; cases hg'
     exact ⟨h1, h2⟩
    ·exact fB j g' (by omega) hg'
   generalize af.fJ g = AD at *
   clear hbad hA hR hE hF hok fB
   clear hX
   repeat' (first | exact ⟨⟩ | refine yG ?_ ?_ | refine yA (.bool AD) (fun _ => A) ?_ | refine yO (aJ underlying121) ?_ | refine yN (j := i) underlying121 sizeOf9 ?_ | refine yO (v := .str g) (aP 1 (.str g) (fun w => isAgg9 w) rfl (fun β => hld)) ?_ | intro _)
   all_goals first | (exfalso; omega) | (obtain ⟨rfl, rfl⟩ := rM (by first | (left; simpa using (by assumption : (!AD) = true)) | (right; omega)); (refine ret fun β w' hm => ?_; exact ⟨⟨false, 0, 0, none, 0, none, 0⟩, by simp [bI.val, ae.aT, SV.den, SV.aF], rfl, dM, sW, hm.below⟩)) | (refine hI _ ⟨(i + 1, acc ++ g), by dsimp only; omega, by dsimp only; rw [hnx], hgood (by simpa using (by assumption : (!AD) = false)) (by omega)⟩ (by dsimp only; omega) yW; done)
  ·have e : i = gs.length := by omega
   subst e
   rw [List.take_length] at hacc
   have hall : ∀ j g, gs[j]? = some g -> af.bJ gs.length j g := fun j g hg => fB j g (List.getElem?_eq_some_iff.1 hg).1 hg
   replace hR := hR hall
   replace hE := hE hall
   replace hok := hok hall
   rw [<- hv, <- hacc] at hR
   clear hbad hA fB
   obtain ⟨m0, n0, d0⟩ := N0
   by_cases hE0 : E0 = 0
   ·have hok2 := hok hE0
    rw [hok2]
    replace hX := hX hall hE0
    replace hF := hF hall hE0
    obtain ⟨m1, n1, d1⟩ := N
    repeat' (first | exact ⟨⟩ | refine yG ?_ ?_ | (refine eG .i64 10 ⟨m0, n0, d0⟩ E0 hw0 (by kernel_rfl) rfl (fun β w' hm => hR w' hm.below) (fun a1 c1 a2 c2 hc1 => ?_)) | (refine Ad (Lz n0 a1 (Lz d0 a2 [])) .i64 10 ⟨m1, n1, d1⟩ hw0 (by kernel_rfl) rfl (oz 2 (Nat.le_of_ble_eq_true rfl) rfl (oz 3 (Nat.le_of_ble_eq_true rfl) rfl Ai)) (fun β w' hm => hX ⟨m0, n0, d0, a1, c1, a2, c2⟩ w' hm.below (aX.of (hm.dS 2 rfl) (hm.dS 3 rfl) hc1) rfl) (fun a3 c3 a4 c4 hc2 => ?_)) | refine yK (.bg [.agg [.str F1, .str F2], .int .i64 E1]) (fun β w hm => hF ⟨m1, n1, d1, a3, c3, a4, c4⟩ w hm.below (aX.of (df hm) (df hm) hc2) rfl) ?_ | ((with_reducible show ∃ _, _); first | (refine ⟨k, rfl, by omega, ?_⟩)) | intro _)
    all_goals first | (exfalso; omega) | (refine ret fun β w' hm => ?_; first | exact ⟨⟨m1, n1, d1, a3, c3, a4, c4⟩, rfl, rfl, hc2, oK (hm.dS 5 rfl) (hm.di 5 rfl rfl) (hm.dS 6 rfl) (hm.di 6 rfl rfl), hm.below⟩ | exact ⟨⟨m1, n1, d1, a3, c3, a4, c4⟩, rfl, rfl, hc2, oK (hm.dS 4 rfl) (hm.di 4 rfl rfl) (hm.dS 5 rfl) (hm.di 5 rfl rfl), hm.below⟩)
   ·obtain ⟨hok2, xU⟩ := hE hE0
    rw [hok2, xU]
    repeat' (first | exact ⟨⟩ | refine yG ?_ ?_ | (refine eG .i64 10 ⟨m0, n0, d0⟩ E0 hw0 (by kernel_rfl) rfl (fun β w' hm => hR w' hm.below) (fun a1 c1 a2 c2 hc1 => ?_)) | ((with_reducible show ∃ _, _); first | (refine ⟨k, rfl, by omega, ?_⟩)) | intro _)
    all_goals first | (exfalso; omega) | (refine ret fun β w' hm => ?_; exact ⟨⟨false, 0, 0, none, 0, none, 0⟩, by simp [bI.val, ae.aT, SV.den, SV.aF], rfl, dM, sW, hm.below⟩)
theorem Gm (c : UInt8) (r u v : List UInt8) (gs : List (List UInt8)) (k : Nat) (w : World) (hw0 : 0 < w.heap.size) (hl : r.length <= 100000) (hc : (c.toNat : Int) ≠ 45 /\ (c.toNat : Int) ≠ 43) (hq : (c :: r) = [] \/ ¬ (((c :: r).getD ((c :: r).length - 1) 0).toNat : Int) = 37) (hQ : u ++ v = (c :: r)) (hk : k = u.length) (hgl : gs.flatten.length <= 100000) (hgn : gs.length <= 1000000)
  (hM : ∀ w' : World, QC 122 #[.string (ah (c :: r)), .string (ah [45])] w' (.bool false))
  (hP : ∀ w' : World, QC 122 #[.string (ah (c :: r)), .string (ah [43])] w' (.bool false))
  (hS : ∀ w' : World, QC 123 #[.string (ah (c :: r)), .func (.func 124) #[] #[]] w' (.int .i64 (k : Nat)))
  (hL : ∀ w' : World, Calls Tryz.prog 126 #[.string (ah u), .int .u8 44] w' fun e w'' => BW w' w'' /\ ∃ t : Nat × Nat, e = .returned (.slice (some ⟨t.1, 0, none⟩) gs.length t.2) /\ ∀ q ∈ [((some ⟨t.1, 0, none⟩ : Option Addr), bP gs)], aS q.1 q.2 w'' /\ bz q.1 q.2 w')
  (hA : ∀ (g : List UInt8), g.length <= 100000 -> ∀ w' : World, QC 127 #[.string (ah g)] w' (.bool (af.fJ g)))
  (N : ae.Num) (ok : Bool) (hbad : ∀ i g, gs[i]? = some g -> ¬ af.bJ gs.length i g -> ok = false /\ N = ⟨false, 0, 0⟩)
  (N0 : ae.Num) (E0 E1 : Int) (hR : (∀ i g, gs[i]? = some g -> af.bJ gs.length i g) -> ∀ w', BW w w' -> Calls Tryz.prog 128 #[.string (ah ([] ++ gs.flatten ++ v))] w' (iC .i64 10 N0 E0 w'))
  (hE : (∀ i g, gs[i]? = some g -> af.bJ gs.length i g) -> E0 ≠ 0 -> ok = false /\ N = ⟨false, 0, 0⟩)
  (F1 F2 : List UInt8) (hF : (∀ i g, gs[i]? = some g -> af.bJ gs.length i g) -> E0 = 0 -> uJ w N0 fun x w' => Calls Tryz.prog 103 #[x.val 10] w' (fQ (F1, F2) E1 w'))
  (hok : (∀ i g, gs[i]? = some g -> af.bJ gs.length i g) -> E0 = 0 -> N = N0 /\ ok = decide (E1 = 0)) :
  Calls Tryz.prog 63 #[.string (ah (c :: r))] w (dU .i64 10 N ok w) := by
 have hc' := c.toNat_lt
 have hkl : k <= (c :: r).length := by rw [<- hQ, hk, List.length_append]; omega
 have hu : List.take k (c :: r) = u := by rw [<- hQ, hk]; simp
 have hv : List.drop k (c :: r) = v := by rw [<- hQ, hk]; simp
 have U6 : (c :: r).length <= 100001 := by simp; omega
 have KW : 1 <= (c :: r).length := by simp
 have hdl : (List.drop 1 (c :: r)).length <= 100000 := by simpa using hl
 have hgd : (c :: r).getD 0 0 = c := rfl
 have hvl : (List.drop k (c :: r)).length <= 100001 := by rw [List.length_drop]; omega
 have Ry : (c :: r).length <= 100001 := by omega
 refine yE func63 rfl results63 ntmps63 [] [] [.str (c :: r)] w ?_
 repeat' (first | exact ⟨⟩ | refine yG ?_ ?_ | refine yA (.lit false) (fun _ => hM) ?_ | refine yA (.lit false) (fun _ => hP) ?_ | refine yA (.int .i64 (k : Nat)) (fun _ => hS) ?_ | (refine bT (T := Nat × Nat) (fun t => .any (.slice (some ⟨t.1, 0, none⟩) gs.length t.2)) (fun t => [(some ⟨t.1, 0, none⟩, bP gs)]) hw0 (by kernel_rfl) rfl (fun _ => rfl) (fun β w' hm => (by first | exact hL w' | (rw [<- hu] at hL; exact hL w'))) (fun p _ => ?_)) | ((with_reducible show ∃ _ : SV, _); first | (refine ⟨.lit false, by kernel_rfl, trivial, fun β w hm => hM w, ?_⟩) | (refine ⟨.lit false, by kernel_rfl, trivial, fun β w hm => hP w, ?_⟩) | refine yO (aJ underlying121) ?_) | ((with_reducible show ∃ _, _); first | (refine ⟨0, rfl, by simp, ?_⟩) | (refine ⟨1, rfl, by simp, ?_⟩) | (refine ⟨k, rfl, by omega, ?_⟩) | (refine ⟨(c :: r).length - 1, by omega, by omega, ?_⟩)) | intro _)
 all_goals first | (exfalso; rw [hgd] at *; omega) | (exfalso; contradiction) | (exfalso; exact hq0 (Decidable.not_not.1 (by assumption))) | (exfalso; rcases hq with h | h <;> contradiction) | skip
 all_goals
  clear hM hP hS hL hu hQ hgd
  refine yZ (T := {t : Nat × List UInt8 // t.1 <= gs.length /\ t.2 = (gs.take t.1).flatten /\ ∀ j g, j < t.1 -> gs[j]? = some g -> af.bJ gs.length j g}) (fun t => ⟨[(0, .str (c :: r)), (2, .ptr 0 0), (4, .str []), (5, .lit false), (6, .int .i64 (k : Nat)), (7, .any (.slice (some ⟨p.1, 0, none⟩) gs.length p.2)), (8, .str t.1.2), (46, .any (.slice (some ⟨p.1, 0, none⟩) gs.length p.2)), (47, .int .i64 (gs.length : Nat)), (48, .int .i64 (t.1.1 : Nat))], [(0, true, .cells 72 [.lit false, .any (.slice none 0 0), .any (.slice none 0 0)]), (1, false, .aK (bV w.heap.size (some ⟨p.1, 0, none⟩) (bP gs)))], 2, 109⟩) (fun t => gs.length - t.1.1) ⟨(0, []), Nat.zero_le _, by simp, fun j g h => by omega⟩ [] [] (fun t I hI => ?_) (by ((with_reducible show wk _ _); repeat' (first | exact trivial | exact au _ | refine eY ?_ | refine eqS ?_ | apply And.intro | exact yV | fail)); all_goals first | exact fun b x h => h | (simp_all [fK, IK, rf]; done))
  obtain ⟨⟨i, acc⟩, hi, hacc, fB⟩ := t
  dsimp only at hi hacc fB hI ⊢
  have hal : acc.length <= 100000 := by rw [hacc]; exact Nat.le_trans (dE gs i) hgl
  by_cases hlt : i < gs.length
  ·obtain ⟨g, hg⟩ : ∃ g, gs[i]? = some g := ⟨gs[i], List.getElem?_eq_getElem hlt⟩
   have hld := pX hg
   have hnx := mG hg
   rw [<- hacc] at hnx
   have BA : g.length <= 100000 := by
    have h1 := dE gs (i + 1)
    rw [hnx, List.length_append] at h1
    omega
   have A := hA g BA
   have rM : (af.fJ g = false \/ (1 < gs.length /\ (i = 0 /\ 3 < g.length \/ 0 < i /\ g.length ≠ 3))) -> ok = false /\ N = ⟨false, 0, 0⟩ := fun h => hbad i g hg (fun h' => by
    rcases h with h | h
    ·obtain ⟨g1, -⟩ := h'
     rw [h] at g1; cases g1
    ·obtain ⟨-, g2⟩ := h'
     exact g2 h)
   have hgood : af.fJ g = true -> ¬ (1 < gs.length /\ (i = 0 /\ 3 < g.length \/ 0 < i /\ g.length ≠ 3)) -> ∀ j g', j < i + 1 -> gs[j]? = some g' -> af.bJ gs.length j g' := fun h1 h2 j g' hj hg' => by
    by_cases e : j = i
    ·subst e
     rw [hg] at hg'; cases hg'
     exact ⟨h1, h2⟩
    ·exact fB j g' (by omega) hg'
   generalize af.fJ g = AD at *
   clear hbad hA hR hE hF hok fB
   repeat' (first | exact ⟨⟩ | refine yG ?_ ?_ | refine yA (.bool AD) (fun _ => A) ?_ | refine yO (aJ underlying121) ?_ | refine yN (j := i) underlying121 sizeOf9 ?_ | refine yO (v := .str g) (aP 1 (.str g) (fun w => isAgg9 w) rfl (fun β => hld)) ?_ | intro _)
   all_goals first | (exfalso; omega) | (obtain ⟨rfl, rfl⟩ := rM (by first | (left; simpa using (by assumption : (!AD) = true)) | (right; omega)); (refine ret fun β w' hm => ?_; exact ⟨⟨false, 0, 0, none, 0, none, 0⟩, by simp [bI.val, ae.aT, SV.den, SV.aF], rfl, dM, sW, hm.below⟩)) | (refine hI _ ⟨(i + 1, acc ++ g), by dsimp only; omega, by dsimp only; rw [hnx], hgood (by simpa using (by assumption : (!AD) = false)) (by omega)⟩ (by dsimp only; omega) yW; done)
  ·have e : i = gs.length := by omega
   subst e
   rw [List.take_length] at hacc
   have hall : ∀ j g, gs[j]? = some g -> af.bJ gs.length j g := fun j g hg => fB j g (List.getElem?_eq_some_iff.1 hg).1 hg
   replace hR := hR hall
   replace hE := hE hall
   replace hok := hok hall
   rw [<- hv, <- hacc] at hR
   clear hbad hA fB
   obtain ⟨m0, n0, d0⟩ := N0
   by_cases hE0 : E0 = 0
   ·obtain ⟨rfl, hok2⟩ := hok hE0
    rw [hok2]
    replace hF := hF hall hE0
    repeat' (first | exact ⟨⟩ | refine yG ?_ ?_ | (refine eG .i64 10 ⟨m0, n0, d0⟩ E0 hw0 (by kernel_rfl) rfl (fun β w' hm => hR w' hm.below) (fun a1 c1 a2 c2 hc1 => ?_)) | refine yK (.bg [.agg [.str F1, .str F2], .int .i64 E1]) (fun β w hm => hF ⟨m0, n0, d0, a1, c1, a2, c2⟩ w hm.below (aX.of (hm.dS 2 rfl) (hm.dS 3 rfl) hc1) rfl) ?_ | ((with_reducible show ∃ _, _); first | (refine ⟨k, rfl, by omega, ?_⟩)) | intro _)
    all_goals first | (exfalso; omega) | (refine ret fun β w' hm => ?_; exact ⟨⟨m0, n0, d0, a1, c1, a2, c2⟩, rfl, rfl, hc1, oK (hm.dS 2 rfl) (hm.di 2 rfl rfl) (hm.dS 3 rfl) (hm.di 3 rfl rfl), hm.below⟩)
   ·obtain ⟨hok2, xU⟩ := hE hE0
    rw [hok2, xU]
    repeat' (first | exact ⟨⟩ | refine yG ?_ ?_ | (refine eG .i64 10 ⟨m0, n0, d0⟩ E0 hw0 (by kernel_rfl) rfl (fun β w' hm => hR w' hm.below) (fun a1 c1 a2 c2 hc1 => ?_)) | ((with_reducible show ∃ _, _); first | (refine ⟨k, rfl, by omega, ?_⟩)) | intro _)
    all_goals first | (exfalso; omega) | (refine ret fun β w' hm => ?_; exact ⟨⟨false, 0, 0, none, 0, none, 0⟩, by simp [bI.val, ae.aT, SV.den, SV.aF], rfl, dM, sW, hm.below⟩)
end Go.Proofs.YtdkhkfdenlabaaaGreatDoor
