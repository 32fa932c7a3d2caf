/- Values, the program: Same of any two val -/
import Derived.Test.YtdkhkfdenlabaaaGreatDoorVGG
import Derived.Test.YtdkhkfdenlabaaaGreatDoorVVaW10
import Derived.Test.YtdkhkfdenlabaaaGreatDoorVGD
import Derived.Test.YtdkhkfdenlabaaaGreatDoorVGM
import Derived.Test.YtdkhkfdenlabaaaGreatDoorVGO
import Derived.Test.YtdkhkfdenlabaaaGreatDoorVGN
import Derived.Test.YtdkhkfdenlabaaaGreatDoorVGI
set_option linter.unusedSimpArgs false
set_option linter.unusedVariables false
set_option maxRecDepth 100000
set_option maxHeartbeats 64000000
namespace Go.Proofs.YtdkhkfdenlabaaaGreatDoor
open Go.Proofs.Tryz
section
open Go.RowKit
open Sym
attribute [local irreducible] Calls Sym.bM ae.nd ae.bu ae.upd ae.ak ae.ay
def DI (l : List af.VT) (a : Option Addr) (ps : Nat -> Option Addr × Nat) (w : World) : Prop := ∀ i x, l[i]? = some x -> ∃ ad, a = some ad /\ ad.block < w.heap.size /\ ∀ j v, (lY x (ps i))[j]? = some v -> w.cell? (ad.add (i * 9 + j)) = some v
def uM (l : List af.VT) (ps : Nat -> Option Addr × Nat) : List Value := (List.range l.length).flatMap fun i => lY (l.getD i af.Fp) (ps i)
theorem KF (l : List af.VT) (ps : Nat -> Option Addr × Nat) : (uM l ps).length = l.length * 9 := by
 unfold uM
 rw [Rn (sz := 9) (fun _ => rfl), List.length_range]
theorem xy {l : List af.VT} (ps : Nat -> Option Addr × Nat) {i : Nat} {x : af.VT} (h : l[i]? = some x) {j : Nat} (hj : j < 9) : (uM l ps)[i * 9 + j]? = (lY x (ps i))[j]? := by
 unfold uM
 have hi := (List.getElem?_eq_some_iff.1 h).1
 rw [Nj (sz := 9) (fun _ => rfl) (List.range l.length) i j i (by simp [hi]) hj]
 simp [List.getD, h]
theorem DI.V5 {l : List af.VT} {a : Option Addr} {ps : Nat -> Option Addr × Nat} {w : World} (h : DI l a ps w) : aS a (uM l ps) w := by
 intro q v hq
 have hlt := (List.getElem?_eq_some_iff.1 hq).1
 rw [KF] at hlt
 have hi : q / 9 < l.length := by omega
 obtain ⟨x, hx⟩ : ∃ x, l[q / 9]? = some x := ⟨l[q / 9]'hi, List.getElem?_eq_getElem hi⟩
 have e : q = q / 9 * 9 + q % 9 := by omega
 obtain ⟨ad, ha, hb, hc⟩ := h _ x hx
 refine ⟨ad, ha, hb, ?_⟩
 rw [e] at hq ⊢
 rw [xy ps hx (by omega)] at hq
 exact hc _ v hq
theorem DI.Vw {l : List af.VT} {a : Option Addr} {ps : Nat -> Option Addr × Nat} {w : World} (h : aS a (uM l ps) w) : DI l a ps w := by
 intro i x hx
 have h9 : ∀ j v, (lY x (ps i))[j]? = some v -> j < 9 := fun j v hv => (List.getElem?_eq_some_iff.1 hv).1
 obtain ⟨ad, ha, hb, -⟩ := h (i * 9 + 0) (.int .i64 x.kind) (by rw [xy ps hx (by omega)]; rfl)
 refine ⟨ad, ha, hb, fun j v hv => ?_⟩
 obtain ⟨ad', ha', -, hc⟩ := h (i * 9 + j) v (by rw [xy ps hx (h9 j v hv)]; exact hv)
 obtain rfl : ad' = ad := by rw [ha] at ha'; exact (Option.some.inj ha').symm
 exact hc
theorem oL.parts {w : World} {t : af.VT} {a : Option Addr} {cap : Nat} (h : oL w t a cap) : ∃ ps : Nat -> Option Addr × Nat, t.Fit /\ t.items.length <= cap /\ (a = none -> cap = 0) /\ (∀ i x, t.items[i]? = some x -> oL w x (ps i).1 (ps i).2) /\ DI t.items a ps w := by
 obtain ⟨_, _, _, ps, hf, hc, hn, hi, hs⟩ := h
 exact ⟨ps, hf, hc, hn, hi, hs⟩
theorem NS {base : Nat} {w0 : Base} {rows : List (Nat × Bool × aV)} {nx : Nat} {β : Nat -> Nat} {w : World} (hm : Mem base w0 rows nx β w) (j : Nat) {e : TypeId} {sz g n cap : Nat} {xs : List Value} (hj : get rows j = some (true, .aK (dN e sz g n cap xs))) : base <= g /\ g < w.heap.size /\ dN e sz g n cap xs g w.heap[g]? := by
 obtain ⟨h1, -, -, h4⟩ := hm.row j _ _ hj
 have hg : β j = g := h1.2.1
 have h1' := h1.2
 rw [hg] at h1'
 exact ⟨by rw [<- hg]; exact h4 rfl, by rw [<- hg]; exact h1.1, h1'⟩
def af.Ur (t : af.VT) : af.VT := ⟨5, ([], []), [], false, 0, t.rows, t.cols, t.items⟩
theorem oL.copied {w w' : World} {t : af.VT} {a : Option Addr} {cap : Nat} (h : oL w t a cap) (hb : BW w w') {ps : Nat -> Option Addr × Nat} (hi : ∀ i x, t.items[i]? = some x -> oL w x (ps i).1 (ps i).2) {g cap' : Nat} (hs : aS (some ⟨g, 0, none⟩) (uM t.items ps) w') (hc : t.items.length <= cap') : oL w' (af.Ur t) (some ⟨g, 0, none⟩) cap' :=
 .mk _ _ _ ps ⟨by simp [af.Ur], by simp [af.Ur], by simp [af.Ur], h.fit.it⟩ hc (fun h => by cases h) (fun i x hx => (hi i x hx).lift hb) (DI.Vw hs)
end
section
open Go.RowKit
open Sym
attribute [local irreducible] Calls Sym.bM ae.nd ae.bu ae.upd
theorem ae.rV {b x y m : Nat} (hb : 2 <= b) (h1 : ae.nd b x <= m) (h2 : ae.nd b y <= m) : ae.nd b (x + y) <= m + 1 := by
 refine ae.dX hb ?_
 have a1 := ae.dQ (by omega) (ae.dP hb x) h1
 have a2 := ae.dQ (by omega) (ae.dP hb y) h2
 have : b ^ m * 2 <= b ^ m * b := Nat.mul_le_mul_left _ hb
 rw [Nat.pow_succ]
 omega
structure RtT where
 x : Nat
 a : Option Addr
 c : Nat
structure RtI (X : Nat) (t : RtT) : Prop where
 sq : ae.SqI X t.x
 pos : 0 < t.x
 nd : ae.nd 1000000000 t.x <= 100000
 an : t.a = none -> t.c = 0
 cn : ae.nd 1000000000 t.x <= t.c
theorem su (c : UInt8) (w : World) : QC 125 #[.int .u8 (c.toNat : Int)] w (.bool (ae.aY c)) := by
 have hc := c.toNat_lt
 have hd : ae.aY c = (decide (48 <= c.toNat) && decide (c.toNat <= 57)) := by
  rw [Bool.eq_iff_iff, ae.jR]; simp
 rw [hd]
 refine yE func125 rfl results125 ntmps125 [] [] [.int .u8 (c.toNat : Int)] w ?_
 repeat' (first | exact ⟨⟩ | refine yG ?_ ?_ | intro _)
 all_goals (simp only [SV.den]; congr 1; rw [Bool.eq_iff_iff]; simp; omega)
theorem jS (s : List UInt8) (c : UInt8) (w : World) (hs : s.length <= 9223372036854775807) : QC 122 #[.string (ah s), .string (ah [c])] w (.bool (s.head? == some c)) := by
 refine yE func122 rfl results122 ntmps122 [] [] [.str s, .str [c]] w ?_
 cases s with
 | nil =>
   repeat' (first | exact ⟨⟩ | refine yG ?_ ?_ | intro _)
   all_goals first | rfl | (exfalso; simp_all; done) | (exfalso; omega)
 | cons d r =>
   repeat' (first | exact ⟨⟩ | refine yG ?_ ?_ | ((with_reducible show ∃ _, _); first | (refine ⟨1, rfl, by simp, ?_⟩)) | intro _)
   all_goals first | (exfalso; simp_all; done) | (exfalso; simp_all; omega) | skip
   all_goals (simp [SV.den]; try (rw [Bool.eq_iff_iff]; simp))
theorem head_drop (s : List UInt8) (n : Nat) (h : n < s.length) : s.drop n = s.getD n 0 :: s.drop (n + 1) := by rw [List.drop_eq_getElem_cons h, List.getD_eq_getElem?_getD, List.getElem?_eq_getElem h]; rfl
theorem JG (s : List UInt8) (w : World) (hs : s.length <= 9223372036854775807) : QC 123 #[.string (ah s), .func (.func 125) #[] #[]] w (.int .i64 ((ae.aW s).length : Nat)) := by
 refine yE func123 rfl results123 ntmps123 [] [] [.str s, .fn 125 []] w ?_
 repeat' (first | exact ⟨⟩ | refine yG ?_ ?_ | intro _)
 refine yZ (T := {n : Nat // n <= s.length /\ (ae.aW s).length = n + (ae.aW (s.drop n)).length}) (fun t => ⟨[(0, .str s), (1, .fn 125 []), (7, .int .i64 (s.length : Nat)), (8, .int .i64 (t.1 : Nat))], [], 0, 21⟩) (fun t => s.length - t.1) ⟨0, Nat.zero_le _, by simp⟩ [] [] (fun t I hI => ?_) (by dsimp only; ((with_reducible show wk _ _); repeat' (first | exact trivial | exact au _ | refine eY ?_ | refine eqS ?_ | apply And.intro | exact yV | fail)))
 obtain ⟨n, hn, hr⟩ := t
 dsimp only
 by_cases hlt : n < s.length
 ·rw [head_drop s n hlt] at hr
  by_cases hc : ae.aY (s.getD n 0) = true
  ·have hd := fun w => su (s.getD n 0) w
   rw [hc] at hd
   unfold ae.aW at hr
   rw [List.takeWhile_cons_of_pos hc] at hr
   repeat' (first | exact ⟨⟩ | refine yG ?_ ?_ | refine yA (.lit true) (fun _ => hd) ?_ | ((with_reducible show ∃ _, _); first | (refine ⟨n, rfl, by omega, ?_⟩)) | intro _)
   exact hI _ ⟨n + 1, by omega, by unfold ae.aW; rw [hr]; simp; omega⟩ (by dsimp only; omega) (by dsimp only; ((with_reducible show wk _ _); repeat' (first | exact trivial | exact au _ | refine eY ?_ | refine eqS ?_ | apply And.intro | exact yV | fail)))
  ·have hd := fun w => su (s.getD n 0) w
   rw [Bool.eq_false_iff.2 hc] at hd
   unfold ae.aW at hr
   rw [List.takeWhile_cons_of_neg hc] at hr
   have hr2 : (ae.aW s).length = n := by unfold ae.aW; rw [hr]; rfl
   rw [hr2]
   repeat' (first | exact ⟨⟩ | refine yG ?_ ?_ | refine yA (.lit false) (fun _ => hd) ?_ | ((with_reducible show ∃ _, _); first | (refine ⟨n, rfl, by omega, ?_⟩)) | intro _)
   all_goals rfl
 ·have : n = s.length := by omega
  subst this
  rw [List.drop_of_length_le (Nat.le_refl _)] at hr
  have hr2 : (ae.aW s).length = s.length := hr
  rw [hr2]
  repeat' (first | exact ⟨⟩ | refine yG ?_ ?_ | intro _)
  all_goals rfl
theorem Uo (s : List UInt8) (w : World) (hs : s.length <= 9223372036854775807) : QC 36 #[.string (ah s), .func (.func 125) #[] #[]] w (.bool (s.all ae.aY)) := by
 refine yE func36 rfl results36 ntmps36 [] [] [.str s, .fn 125 []] w ?_
 repeat' (first | exact ⟨⟩ | refine yG ?_ ?_ | intro _)
 refine yZ (T := {n : Nat // n <= s.length /\ s.all ae.aY = (s.drop n).all ae.aY}) (fun t => ⟨[(0, .str s), (1, .fn 125 []), (7, .int .i64 (s.length : Nat)), (8, .int .i64 (t.1 : Nat))], [], 0, 18⟩) (fun t => s.length - t.1) ⟨0, Nat.zero_le _, by simp⟩ [] [] (fun t I hI => ?_) (by dsimp only; ((with_reducible show wk _ _); repeat' (first | exact trivial | exact au _ | refine eY ?_ | refine eqS ?_ | apply And.intro | exact yV | fail)))
 obtain ⟨n, hn, hr⟩ := t
 dsimp only
 by_cases hlt : n < s.length
 ·rw [head_drop s n hlt, List.all_cons] at hr
  by_cases hc : ae.aY (s.getD n 0) = true
  ·have hd := fun w => su (s.getD n 0) w
   rw [hc] at hd hr
   repeat' (first | exact ⟨⟩ | refine yG ?_ ?_ | refine yA (.lit true) (fun _ => hd) ?_ | ((with_reducible show ∃ _, _); first | (refine ⟨n, rfl, by omega, ?_⟩)) | intro _)
   exact hI _ ⟨n + 1, by omega, by rw [hr]; simp⟩ (by dsimp only; omega) (by dsimp only; ((with_reducible show wk _ _); repeat' (first | exact trivial | exact au _ | refine eY ?_ | refine eqS ?_ | apply And.intro | exact yV | fail)))
  ·have hd := fun w => su (s.getD n 0) w
   rw [Bool.eq_false_iff.2 hc] at hd hr
   rw [Bool.false_and] at hr
   rw [hr]
   repeat' (first | exact ⟨⟩ | refine yG ?_ ?_ | refine yA (.lit false) (fun _ => hd) ?_ | ((with_reducible show ∃ _, _); first | (refine ⟨n, rfl, by omega, ?_⟩)) | intro _)
   all_goals rfl
 ·rw [List.drop_of_length_le (by omega)] at hr
  rw [hr]
  repeat' (first | exact ⟨⟩ | refine yG ?_ ?_ | intro _)
  all_goals rfl
theorem ig (s : List UInt8) (w : World) (hs : s.length <= 9223372036854775807) : QC 127 #[.string (ah s)] w (.bool (!s.isEmpty && s.all ae.aY)) := by
 have HA := fun w => Uo s w hs
 have he : s.isEmpty = decide (s = []) := by cases s <;> simp
 rw [he]
 generalize s.all ae.aY = b at *
 refine yE func127 rfl results127 ntmps127 [] [] [.str s] w ?_
 repeat' (first | exact ⟨⟩ | refine yG ?_ ?_ | refine yA (.bool b) (fun _ => HA) ?_ | intro _)
 all_goals simp_all [SV.den]
theorem ae.uq (s : List UInt8) (n : Nat) (h : n < s.length) : ae.ax (s.take (n + 1)) = 10 * ae.ax (s.take n) + ((s.getD n 0).toNat - 48) := by
 have e : s.take (n + 1) = s.take n ++ [s.getD n 0] := by
  rw [List.take_add_one, List.getD_eq_getElem?_getD, List.getElem?_eq_getElem h]; rfl
 rw [e, ae.wZ, Nat.mul_comm]
theorem yD (s : List UInt8) (w : World) (hs : s.length <= 3) (ha : s.all ae.aY = true) : QC 132 #[.string (ah s)] w (.int .i64 (ae.ax s : Nat)) := by
 have hb : ∀ n, n <= s.length -> ae.ax (s.take n) < 1000 := fun n hn => by
  have h1 := ae.jW _ (AA ha n)
  have h2 : (s.take n).length <= 3 := by simp; omega
  exact zl h1 (Nat.pow_le_pow_right (by omega) h2)
 refine yE func132 rfl results132 ntmps132 [] [] [.str s] w ?_
 repeat' (first | exact ⟨⟩ | refine yG ?_ ?_ | intro _)
 refine yZ (T := {n : Nat // n <= s.length}) (fun t => ⟨[(0, .str s), (3, .int .i64 (ae.ax (s.take t.1) : Nat)), (6, .int .i64 (s.length : Nat)), (7, .int .i64 (t.1 : Nat))], [], 0, 20⟩) (fun t => s.length - t.1) ⟨0, Nat.zero_le _⟩ [] [] (fun t I hI => ?_) (by dsimp only; rw [List.take_zero]; ((with_reducible show wk _ _); repeat' (first | exact trivial | exact au _ | refine eY ?_ | refine eqS ?_ | apply And.intro | exact yV | fail)))
 obtain ⟨n, hn⟩ := t
 dsimp only
 have h1 := hb n hn
 by_cases hlt : n < s.length
 ·have h2 := hb (n + 1) (by omega)
  rw [ae.uq s n hlt] at h2
  have hd := ae.jR.1 (Kr ha hlt)
  repeat' (first | exact ⟨⟩ | refine yG ?_ ?_ | ((with_reducible show ∃ _, _); first | (refine ⟨n, rfl, by omega, ?_⟩)) | intro _)
  all_goals exact hI _ ⟨n + 1, by omega⟩ (by dsimp only; omega) (by dsimp only; rw [ae.uq s n hlt]; ((with_reducible show wk _ _); repeat' (first | exact trivial | exact au _ | refine eY ?_ | refine eqS ?_ | apply And.intro | exact yV | fail)))
 ·have e : s.take n = s := List.take_of_length_le (by omega)
  rw [e]
  repeat' (first | exact ⟨⟩ | refine yG ?_ ?_ | intro _)
  all_goals rfl
def NumOut (k : IntKind) (b y : Nat) (f : Option Addr -> Nat -> Value) (w : World) (e : Ending) (w' : World) : Prop :=
 ∃ a cap, e = .returned (f a cap) /\ aS a (nv k b y) w' /\ bz a (nv k b y) w /\ (a = none -> cap = 0) /\ ae.nd b y <= cap /\ BW w w'
theorem Sym.Fb {C : Ctx} {d : Nat} {f : FuncId} {args : List SV} {fr : List (Nat × SV)} {rows : List (Nat × Bool × aV)} {nx n : Nat} {K : St -> Prop} (k : IntKind) (b y : Nat) (V : Option Addr -> Nat -> SV) (h0 : 0 < C.base)
  (he : dK C.P f = true) (hd : Nat.blt d n = true) (hv : ∀ a cap, (V a cap).ok nx) (hc : ∀ β w, Mem C.base C.w0 rows nx β w -> Calls C.P f (SV.aF β args).toArray w (NumOut k b y (fun a cap => (V a cap).den β) w))
  (h : ∀ a cap, (a = none -> cap = 0) -> ae.nd b y <= cap -> K ⟨(d, V a cap) :: fr, (nx, false, .aK (bV C.base a (nv k b y))) :: rows, nx + 1, n⟩) : fE C (some d) f args ⟨fr, rows, nx, n⟩ K :=
 bT (T := {t : Option Addr × Nat // (t.1 = none -> t.2 = 0) /\ ae.nd b y <= t.2}) (fun t => V t.1.1 t.1.2) (fun t => [(t.1.1, nv k b y)]) h0 he hd (fun t => hv _ _)
  (fun β w hm => (hc β w hm).mono fun e w' ⟨a, cap, he, h1, h2, h3, h4, h5⟩ => ⟨h5, ⟨(a, cap), h3, h4⟩, he, fun p hp => by
   rw [List.mem_singleton] at hp; subst hp; exact ⟨h1, h2⟩⟩)
  (fun t _ => h t.1.1 t.1.2 t.2.1 t.2.2)
theorem ae.rW (k : Nat) : ae.nd 10 (10 ^ k) = k + 1 := ae.wI (by omega) (Nat.pow_lt_pow_right (by omega) (Nat.lt_succ_self k)) (.inr (by simp))
theorem V7 (k : Nat) : (List.replicate (k + 1) (Value.int .i64 0)).set k (.int .i64 1) = nv .i64 10 (10 ^ k) := by
 rw [ug 10, show (Value.int .i64 1) = Value.int .i64 ((1 : Nat) : Int) from rfl, ji]
 unfold nv ae.dg
 rw [ae.rW, ae.qp (by omega) (by omega), ae.JX (Nat.pow_pos (by omega)), Nat.zero_add, Nat.one_mul]
theorem Js (k : Nat) (w : World) (hk : k <= 500000) : Calls Tryz.prog 180 #[.int .i64 (k : Int)] w (iT .i64 10 (10 ^ k) w) := by
 obtain ⟨i0, hi, hz0, hz1, hz2⟩ := info_parts jw
 have hu := underlying70
 have hnd := ae.rW k
 have hrow := V7 k
 refine yE func180 rfl results180 ntmps180 [] [] [.int .i64 (k : Int)] w ?_
 repeat' (first | exact ⟨⟩ | refine yG ?_ ?_ | (refine pM (m := k + 1) rfl (by omega) rfl rfl hu hi hz0 hz1 rfl (by rw [hz2]; omega) (by unfold maxLen; omega) (fun g => ?_)) | (refine fH bF 0 (u := .int .i64 1) rfl rfl rfl rfl (fun β => rfl) rfl rfl (by omega) ?_) | refine yN (j := k) underlying70 sizeOf3 ?_ | intro _)
 all_goals first | (exfalso; omega) | skip
 all_goals refine ret fun β w' hm => ?_
 all_goals (
  have ho := hm.own 0 rfl
  rw [Nat.mul_one, hrow] at ho
  exact ⟨_, k + 1, by rw [hnd]; rfl, ho.1, bY ho.2.1 rfl, (fun h => by cases h), by rw [hnd]; exact Nat.le_refl _, hm.below⟩)
section
variable (m : Bool) (n d : Nat) (a : Option Addr) (c : Nat) (b : Option Addr) (e : Nat) (k : Nat) (w : World)
theorem zM (hw0 : 0 < w.heap.size) (hk : k <= 500000) (hn : ae.nd 10 n <= 1000000) (hs : aS a (nv .i64 10 n) w) : Calls Tryz.prog 129 #[.agg #[.bool m, .slice a (ae.nd 10 n) c, .slice b (ae.nd 10 d) e], .int .i64 (k : Int)] w (NumOut .i64 10 (n * 10 ^ k) (fun a' c' => .agg #[.bool m, .slice a' (ae.nd 10 (n * 10 ^ k)) c', .slice b (ae.nd 10 d) e]) w) := by
 have hnt := ae.rW k
 refine yE func129 rfl results129 ntmps129 [] [200002, 200003] [.agg [.bool m, .any (.slice a (ae.nd 10 n) c), .any (.slice b (ae.nd 10 d) e)], .int .i64 (k : Int)] w ?_
 repeat' (first | exact ⟨⟩ | refine yG ?_ ?_ | (refine aH .i64 10 (10 ^ k) hw0 (by kernel_rfl) rfl (fun β w' hm => Js k w' hk) (fun a1 c1 q1 q2 q3 => ?_)) | (refine aH .i64 10 (n * 10 ^ k) hw0 (by kernel_rfl) rfl (fun β w' hm => jD a a1 c c1 n (10 ^ k) w' (by omega) (by omega) (hs.below hm.below) (df hm)) (fun a2 c2 q4 q5 q6 => ?_)) | intro _)
 all_goals first | (exfalso; omega) | skip
 all_goals refine ret fun β w' hm => ?_
 all_goals exact ⟨a2, c2, rfl, (df hm), (nS hm), q4, q5, hm.below⟩
theorem sK (hw0 : 0 < w.heap.size) (hk0 : 0 < k) (hk : k <= 500000) (hd : ae.nd 10 d <= 1000000) (hs : aS b (nv .i64 10 d) w) : Calls Tryz.prog 129 #[.agg #[.bool m, .slice a (ae.nd 10 n) c, .slice b (ae.nd 10 d) e], .int .i64 (-(k : Int))] w (NumOut .i64 10 (d * 10 ^ k) (fun a' c' => .agg #[.bool m, .slice a (ae.nd 10 n) c, .slice a' (ae.nd 10 (d * 10 ^ k)) c']) w) := by
 have hnt := ae.rW k
 refine yE func129 rfl results129 ntmps129 [] [200002, 200003] [.agg [.bool m, .any (.slice a (ae.nd 10 n) c), .any (.slice b (ae.nd 10 d) e)], .int .i64 (-(k : Int))] w ?_
 repeat' (first | exact ⟨⟩ | refine yG ?_ ?_ | (refine aH .i64 10 (10 ^ k) hw0 (by kernel_rfl) rfl (fun β w' hm => by simp only [SV.aF, SV.den]; rw [Int.zero_sub, Int.neg_neg]; exact Js k w' hk) (fun a1 c1 q1 q2 q3 => ?_)) | (refine aH .i64 10 (d * 10 ^ k) hw0 (by kernel_rfl) rfl (fun β w' hm => jD b a1 e c1 d (10 ^ k) w' (by omega) (by omega) (hs.below hm.below) (df hm)) (fun a2 c2 q4 q5 q6 => ?_)) | intro _)
 all_goals first | (exfalso; omega) | skip
 all_goals refine ret fun β w' hm => ?_
 all_goals exact ⟨a2, c2, rfl, (df hm), (nS hm), q4, q5, hm.below⟩
theorem LW (hw0 : 0 < w.heap.size) (hk : k <= 500000) (hn : ae.nd 1000000000 n <= 1000000) (hs : aS a (nv .u32 1000000000 n) w) : Calls Tryz.prog 219 #[.agg #[.bool m, .slice a (ae.nd 1000000000 n) c, .slice b (ae.nd 1000000000 d) e], .int .i64 (k : Int)] w (NumOut .u32 1000000000 (n * 10 ^ k) (fun a' c' => .agg #[.bool m, .slice a' (ae.nd 1000000000 (n * 10 ^ k)) c', .slice b (ae.nd 1000000000 d) e]) w) := by
 have hnt := ae.dX (b := 1000000000) (x := 10 ^ k) (n := k + 1) (by omega) (zl (Nat.pow_lt_pow_right (by omega) (Nat.lt_succ_self k)) (Nat.pow_le_pow_left (by omega) _))
 refine yE func219 rfl results219 ntmps219 [] [100002, 100003] [.agg [.bool m, .any (.slice a (ae.nd 1000000000 n) c), .any (.slice b (ae.nd 1000000000 d) e)], .int .i64 (k : Int)] w ?_
 repeat' (first | exact ⟨⟩ | refine yG ?_ ?_ | (refine aH .u32 1000000000 (10 ^ k) hw0 (by kernel_rfl) rfl (fun β w' hm => wU k w' (zl hw0 hm.aU) hk) (fun a1 c1 q1 q2 q3 => ?_)) | (refine aH .u32 1000000000 (n * 10 ^ k) hw0 (by kernel_rfl) rfl (fun β w' hm => times_any a a1 c c1 n (10 ^ k) w' (by omega) (by omega) (hs.below hm.below) (df hm)) (fun a2 c2 q4 q5 q6 => ?_)) | intro _)
 all_goals first | (exfalso; omega) | skip
 all_goals refine ret fun β w' hm => ?_
 all_goals exact ⟨a2, c2, rfl, (df hm), (nS hm), q4, q5, hm.below⟩
theorem LV (hw0 : 0 < w.heap.size) (hk0 : 0 < k) (hk : k <= 500000) (hd : ae.nd 1000000000 d <= 1000000) (hs : aS b (nv .u32 1000000000 d) w) : Calls Tryz.prog 219 #[.agg #[.bool m, .slice a (ae.nd 1000000000 n) c, .slice b (ae.nd 1000000000 d) e], .int .i64 (-(k : Int))] w (NumOut .u32 1000000000 (d * 10 ^ k) (fun a' c' => .agg #[.bool m, .slice a (ae.nd 1000000000 n) c, .slice a' (ae.nd 1000000000 (d * 10 ^ k)) c']) w) := by
 have hnt := ae.dX (b := 1000000000) (x := 10 ^ k) (n := k + 1) (by omega) (zl (Nat.pow_lt_pow_right (by omega) (Nat.lt_succ_self k)) (Nat.pow_le_pow_left (by omega) _))
 refine yE func219 rfl results219 ntmps219 [] [100002, 100003] [.agg [.bool m, .any (.slice a (ae.nd 1000000000 n) c), .any (.slice b (ae.nd 1000000000 d) e)], .int .i64 (-(k : Int))] w ?_
 repeat' (first | exact ⟨⟩ | refine yG ?_ ?_ | (refine aH .u32 1000000000 (10 ^ k) hw0 (by kernel_rfl) rfl (fun β w' hm => by simp only [SV.aF, SV.den]; rw [Int.zero_sub, Int.neg_neg]; exact wU k w' (zl hw0 hm.aU) hk) (fun a1 c1 q1 q2 q3 => ?_)) | (refine aH .u32 1000000000 (d * 10 ^ k) hw0 (by kernel_rfl) rfl (fun β w' hm => times_any b a1 e c1 d (10 ^ k) w' (by omega) (by omega) (hs.below hm.below) (df hm)) (fun a2 c2 q4 q5 q6 => ?_)) | intro _)
 all_goals first | (exfalso; omega) | skip
 all_goals refine ret fun β w' hm => ?_
 all_goals exact ⟨a2, c2, rfl, (df hm), (nS hm), q4, q5, hm.below⟩
end
end
section
open Go.RowKit
open Sym
attribute [local irreducible] Calls Sym.bM ae.nd ae.bu ae.upd ae.ak ae.ay
def ae.FI (x : ae.Num) : ae.Num := ⟨x.m, x.n / x.d + (if x.m = true /\ x.n % x.d ≠ 0 then 1 else 0), 1⟩
theorem LJ (x : bI) (w : World) (hw0 : 0 < w.heap.size) (hx : aX .i64 10 x w) (hd : 0 < x.d) (ng : ae.nd 10 x.n <= 1000000) (hxd : ae.nd 10 x.d <= 1000000) :
  Calls Tryz.prog 199 #[x.val 10] w (fF .i64 10 (ae.FI x.num) w) := by
 obtain ⟨i0, hi, hz0, hz1, hz2⟩ := info_parts jw
 have hu := underlying70
 have hsz := fun w => sizeOf3 w
 have hzv := fun w => zeroValue3 w
 have hn1 : ae.nd 10 1 = 1 := ae.gq (by omega)
 have hv1 : nv .i64 10 1 = [.int .i64 1] := oO (by omega)
 have hF : ae.FI x.num = ⟨x.m, x.n / x.d + (if x.m = true /\ x.n % x.d ≠ 0 then 1 else 0), 1⟩ := rfl
 rw [hF]
 clear hF
 obtain ⟨m, n, d, a, c, b, e⟩ := x
 obtain ⟨hx1, hx2, ⟨hx3, hx4, hx5, hx6⟩⟩ := hx
 dsimp only [bI.num, bI.val] at *
 have DV := fun (w' : World) (h : BW w w') => oG a b c e n d w' (zl hw0 h.size) (by omega) (by omega) hd (hx1.below h) (hx2.below h)
 have hq := ae.dD (b := 10) (by omega) (Nat.div_le_self n d)
 have hr0 := ae.fM (b := 10) (x := n % d) (by omega)
 generalize n / d = q at *
 generalize n % d = r at *
 have PL := fun qa qc g (w' : World) h1 h2 => yx qa (some ⟨g, 0, none⟩) qc 1 q 1 w' (by omega) (by omega) h1 h2
 rw [hn1, hv1] at PL
 have fin : ∀ (Z : Nat) (w' : World) (β : Nat -> Nat) (qa : Option Addr) (qc g : Nat), aS qa (nv .i64 10 Z) w' -> bz qa (nv .i64 10 Z) w -> (qa = none -> qc = 0) -> ae.nd 10 Z <= qc -> aS (some ⟨g, 0, none⟩) [.int .i64 1] w' -> bz (some ⟨g, 0, none⟩) [.int .i64 1] w -> BW w w' ->
   fF .i64 10 ⟨m, Z, 1⟩ w (.returned (.agg #[.bool m, .slice qa (ae.nd 10 Z) qc, .slice (some ⟨g, 0, none⟩) 1 1])) w' := fun Z w' β qa qc g g1 g2 g3 g4 g5 g6 g7 =>
  ⟨⟨m, Z, 1, qa, qc, some ⟨g, 0, none⟩, 1⟩, by simp only [bI.val, hn1], rfl, ⟨g3, (fun h => by cases h), g4, by dsimp only; omega⟩, oK g1 g2 (by dsimp only; rw [hv1]; exact g5) (by dsimp only; rw [hv1]; exact g6), g7⟩
 cases m with
 | false =>
   rw [if_neg (by simp), Nat.add_zero]
   refine yE func199 rfl results199 ntmps199 [] [] [.agg [.bool false, .any (.slice a (ae.nd 10 n) c), .any (.slice b (ae.nd 10 d) e)]] w ?_
   repeat' (first | exact ⟨⟩ | refine yG ?_ ?_ | (refine fU .i64 10 q r hw0 (by kernel_rfl) rfl (fun β w' hm => DV w' hm.below) (fun u1 v1 u2 v2 k1 k2 k3 k4 k5 k6 => ?_)) | (refine aI (sz := 1) rfl rfl rfl (xs := [.int .i64 1]) (fun β => rfl) rfl (by omega) (by omega) hu hsz hzv (fun g1 => ?_)) | refine yO (aJ underlying70) ?_ | intro _)
   all_goals first | (exfalso; simp_all; done) | skip
   all_goals refine ret fun β w' hm => ?_
   all_goals exact fin q w' β u1 v1 g1 (df hm) (nS hm) k1 k2 (hm.own 4 rfl).1 (bY (hm.own 4 rfl).2.1 rfl) hm.below
 | true =>
   by_cases hr : r = 0
   ·rw [if_neg (by simp [hr]), Nat.add_zero]
    refine yE func199 rfl results199 ntmps199 [] [] [.agg [.bool true, .any (.slice a (ae.nd 10 n) c), .any (.slice b (ae.nd 10 d) e)]] w ?_
    repeat' (first | exact ⟨⟩ | refine yG ?_ ?_ | (refine fU .i64 10 q r hw0 (by kernel_rfl) rfl (fun β w' hm => DV w' hm.below) (fun u1 v1 u2 v2 k1 k2 k3 k4 k5 k6 => ?_)) | (refine aI (sz := 1) rfl rfl rfl (xs := [.int .i64 1]) (fun β => rfl) rfl (by omega) (by omega) hu hsz hzv (fun g1 => ?_)) | refine yO (aJ underlying70) ?_ | intro _)
    all_goals first | (exfalso; omega) | (exfalso; simp_all; done) | skip
    all_goals refine ret fun β w' hm => ?_
    all_goals exact fin q w' β u1 v1 g1 (df hm) (nS hm) k1 k2 (hm.own 4 rfl).1 (bY (hm.own 4 rfl).2.1 rfl) hm.below
   ·rw [if_pos ⟨rfl, hr⟩]
    refine yE func199 rfl results199 ntmps199 [] [] [.agg [.bool true, .any (.slice a (ae.nd 10 n) c), .any (.slice b (ae.nd 10 d) e)]] w ?_
    repeat' (first | exact ⟨⟩ | refine yG ?_ ?_ | (refine fU .i64 10 q r hw0 (by kernel_rfl) rfl (fun β w' hm => DV w' hm.below) (fun u1 v1 u2 v2 k1 k2 k3 k4 k5 k6 => ?_)) | (refine aH .i64 10 (q + 1) hw0 (by kernel_rfl) rfl (fun β w' hm => PL u1 v1 g0 w' (hm.dS 2 rfl) (hm.own 4 rfl).1) (fun u3 v3 k7 k8 k9 => ?_)) | (refine aI (sz := 1) rfl rfl rfl (xs := [.int .i64 1]) (fun β => rfl) rfl (by omega) (by omega) hu hsz hzv (fun g0 => ?_)) | refine yO (aJ underlying70) ?_ | intro _)
    all_goals first | (exfalso; omega) | (exfalso; simp_all; done) | skip
    all_goals refine ret fun β w' hm => ?_
    all_goals exact fin (q + 1) w' β u3 v3 g0 (df hm) (nS hm) k7 k8 (hm.own 6 rfl).1 (bY (hm.own 6 rfl).2.1 rfl) hm.below
def ae.dA (x : ae.Num) : ae.Num := ⟨x.m, (x.n + x.n + x.d) / (x.d + x.d), 1⟩
section
variable (f : ae.Fr) (w : World) (hw : XW w) (hw0 : 0 < w.heap.size) (h1 : f.1.length <= 9223372036854775807) (h2 : f.2.length <= 9223372036854775807)
include hw hw0 h1 h2
end
theorem RZ (k : IntKind) (b : Nat) : nv k b 0 = [] := by
 have := jT k b 0
 rw [ae.aT] at this
 exact List.length_eq_zero_iff.1 this
theorem Xr {a : Option Addr} {k : IntKind} {b n : Nat} {w : World} (L : List (Option Addr)) : bz a (nv k b n) w \/ a ∈ Lz n a L := by
 unfold Lz
 split
 ·rename_i h; subst h; exact .inl (fun h => absurd (RZ k b) h)
 ·exact .inr (List.mem_cons_self ..)
theorem Y4 {a c : Option Addr} {k : IntKind} {b n d : Nat} {w : World} (L : List (Option Addr)) : bz c (nv k b d) w \/ c ∈ Lz n a (Lz d c L) := by
 refine (Xr (w := w) (k := k) (b := b) (n := d) L).imp id fun h => ?_
 unfold Lz at *
 split
 ·exact h
 ·exact List.mem_cons_of_mem _ h
section
variable (x : bI) (k : Int) (w : World) (hw0 : 0 < w.heap.size) (hk : k.natAbs <= 500000)
include hw0 hk
theorem EC (hx : aX .u32 1000000000 x w) (ng : ae.nd 1000000000 x.n <= 1000000) (hxd : ae.nd 1000000000 x.d <= 1000000) :
  Calls Tryz.prog 219 #[x.val 1000000000, .int .i64 k] w (vN (Lz x.n x.a (Lz x.d x.b [])) .u32 1000000000 (ae.aG x.num k) w) := by
 obtain ⟨m, n, d, a, c, b, e⟩ := x
 obtain ⟨hx1, hx2, ⟨hx3, hx4, hx5, hx6⟩⟩ := hx
 dsimp only [bI.num, bI.val] at *
 unfold ae.aG
 split
 ·rename_i h
  have h3 : k = -(k.natAbs : Int) := by omega
  generalize k.natAbs = j at *
  subst h3
  refine (LV m n d a c b e j w hw0 (by omega) hk hxd hx2).mono ?_
  rintro _ w' ⟨a', c', rfl, g1, g2, g3, g4, g5⟩
  exact ⟨⟨m, n, d * 10 ^ j, a, c, a', c'⟩, rfl, rfl, ⟨hx3, g3, hx5, g4⟩, Ui (hx1.below g5) (Xr _) g1 (.inl g2), g5⟩
 ·rename_i h
  have h3 : k = (k.natAbs : Int) := by omega
  generalize k.natAbs = j at *
  subst h3
  refine (LW m n d a c b e j w hw0 hk ng hx1).mono ?_
  rintro _ w' ⟨a', c', rfl, g1, g2, g3, g4, g5⟩
  exact ⟨⟨m, n * 10 ^ j, d, a', c', b, e⟩, rfl, rfl, ⟨g3, hx4, g4, hx6⟩, Ui g1 (.inl g2) (hx2.below g5) (Y4 _), g5⟩
theorem qH (hx : aX .i64 10 x w) (ng : ae.nd 10 x.n <= 1000000) (hxd : ae.nd 10 x.d <= 1000000) :
  Calls Tryz.prog 129 #[x.val 10, .int .i64 k] w (vN (Lz x.n x.a (Lz x.d x.b [])) .i64 10 (ae.aG x.num k) w) := by
 obtain ⟨m, n, d, a, c, b, e⟩ := x
 obtain ⟨hx1, hx2, ⟨hx3, hx4, hx5, hx6⟩⟩ := hx
 dsimp only [bI.num, bI.val] at *
 unfold ae.aG
 split
 ·rename_i h
  have h3 : k = -(k.natAbs : Int) := by omega
  generalize k.natAbs = j at *
  subst h3
  refine (sK m n d a c b e j w hw0 (by omega) hk hxd hx2).mono ?_
  rintro _ w' ⟨a', c', rfl, g1, g2, g3, g4, g5⟩
  exact ⟨⟨m, n, d * 10 ^ j, a, c, a', c'⟩, rfl, rfl, ⟨hx3, g3, hx5, g4⟩, Ui (hx1.below g5) (Xr _) g1 (.inl g2), g5⟩
 ·rename_i h
  have h3 : k = (k.natAbs : Int) := by omega
  generalize k.natAbs = j at *
  subst h3
  refine (zM m n d a c b e j w hw0 hk ng hx1).mono ?_
  rintro _ w' ⟨a', c', rfl, g1, g2, g3, g4, g5⟩
  exact ⟨⟨m, n * 10 ^ j, d, a', c', b, e⟩, rfl, rfl, ⟨g3, hx4, g4, hx6⟩, Ui g1 (.inl g2) (hx2.below g5) (Y4 _), g5⟩
end
theorem Jq (x : bI) (w : World) (hw0 : 0 < w.heap.size) (hx : aX .u32 1000000000 x w) (hd : 0 < x.d) (ng : ae.nd 1000000000 x.n <= 1000000) (hxd : ae.nd 1000000000 x.d <= 1000000) :
  Calls Tryz.prog 220 #[x.val 1000000000] w (fF .u32 1000000000 (ae.dA x.num) w) := by
 obtain ⟨i0, hi, hz0, hz1, hz2⟩ := info_parts kU
 have hu := underlying137
 have hsz := fun w => sizeOf161 w
 have hzv := fun w => zeroValue161 w
 have hn1 : ae.nd 1000000000 1 = 1 := ae.gq (by omega)
 have hv1 : nv .u32 1000000000 1 = [.int .u32 1] := oO (by omega)
 obtain ⟨m, n, d, a, c, b, e⟩ := x
 obtain ⟨hx1, hx2, ⟨hx3, hx4, hx5, hx6⟩⟩ := hx
 dsimp only [bI.num, bI.val, ae.dA] at *
 have P1 := fun (w' : World) (h : BW w w') => rZ a a c c n n w' (by omega) (by omega) (hx1.below h) (hx1.below h)
 have P2 := fun (w' : World) (h : BW w w') => rZ b b e e d d w' (by omega) (by omega) (hx2.below h) (hx2.below h)
 have m1 := ae.rV (b := 1000000000) (m := 1000000) (by omega) ng ng
 have m2 := ae.rV (b := 1000000000) (m := 1000000) (by omega) hxd hxd
 have m3 := ae.rV (b := 1000000000) (m := 1000001) (x := n + n) (y := d) (by omega) m1 (by omega)
 have hD : 0 < d + d := by omega
 have P3 := fun a1 c1 (w' : World) (h : BW w w') h1 => rZ a1 b c1 e (n + n) d w' (by omega) (by omega) h1 (hx2.below h)
 generalize n + n = S at *
 generalize S + d = T at *
 generalize d + d = D at *
 have DV := fun a1 c1 a2 c2 (w' : World) (h : BW w w') => jB a1 a2 c1 c2 T D w' (zl hw0 h.size) (by omega) (by omega) hD
 generalize T / D = Q at *
 generalize T % D = R at *
 refine yE func220 rfl results220 ntmps220 [] [200001] [.agg [.bool m, .any (.slice a (ae.nd 1000000000 n) c), .any (.slice b (ae.nd 1000000000 d) e)]] w ?_
 repeat' (first | exact ⟨⟩ | refine yG ?_ ?_ | (refine aH .u32 1000000000 S hw0 (by kernel_rfl) rfl (fun β w' hm => P1 w' hm.below) (fun a1 c1 h1 h2 h3 => ?_)) | (refine aH .u32 1000000000 D hw0 (by kernel_rfl) rfl (fun β w' hm => P2 w' hm.below) (fun a2 c2 h4 h5 h6 => ?_)) | (refine aH .u32 1000000000 T hw0 (by kernel_rfl) rfl (fun β w' hm => P3 a1 c1 w' hm.below (df hm)) (fun a3 c3 h7 h8 h9 => ?_)) | (refine fU .u32 1000000000 Q R hw0 (by kernel_rfl) rfl (fun β w' hm => DV a3 c3 a2 c2 w' hm.below (df hm) (df hm)) (fun u1 v1 u2 v2 k1 k2 k3 k4 k5 k6 => ?_)) | (refine aI (sz := 1) rfl rfl rfl (xs := [.int .u32 1]) (fun β => rfl) rfl (by omega) (by omega) hu hsz hzv (fun g1 => ?_)) | intro _)
 all_goals first | (exfalso; omega) | skip
 all_goals refine ret fun β w' hm => ?_
 all_goals exact ⟨⟨m, Q, 1, u1, v1, some ⟨g1, 0, none⟩, 1⟩, by simp only [bI.val, hn1]; rfl, rfl, ⟨k1, (fun h => by cases h), k2, by dsimp only; omega⟩, oK (df hm) (nS hm) (by dsimp only; rw [hv1]; exact (hm.own 7 rfl).1) (by dsimp only; rw [hv1]; exact bY (hm.own 7 rfl).2.1 rfl), hm.below⟩
end
section
open Go.RowKit
open Sym
attribute [local irreducible] Calls Sym.bM ae.nd ae.bu ae.upd ae.ak ae.ay
namespace ae
theorem lh {b : Nat} (hb : 10 <= b) {x : Num} {k : Int} {A K : Nat} (h1 : nd b x.n <= A) (h2 : nd b x.d <= A) (hk : k.natAbs <= K) (hd : 0 < x.d) : nd b (aG x k).n <= A + (K + 1) /\ nd b (aG x k).d <= A + (K + 1) /\ 0 < (aG x k).d /\ (aG x k).m = x.m := by
 have ht := BK (b := b) hb k.natAbs
 have hp : 0 < 10 ^ k.natAbs := Nat.pow_pos (by omega)
 unfold aG
 split
 ·have := iV (b := b) (x := x.d) (y := 10 ^ k.natAbs) (by omega)
  exact ⟨by dsimp only; omega, by dsimp only; omega, Nat.mul_pos hd hp, rfl⟩
 ·have := iV (b := b) (x := x.n) (y := 10 ^ k.natAbs) (by omega)
  exact ⟨by dsimp only; omega, by dsimp only; omega, hd, rfl⟩
theorem tZ {b : Nat} (hb : 10 <= b) {x : Num} {A : Nat} (h1 : nd b x.n <= A) (h2 : nd b x.d <= A) : nd b (dA x).n <= A + 2 := by
 have m1 := rV (b := b) (m := A) (by omega) h1 h1
 have m3 := rV (b := b) (m := A + 1) (x := x.n + x.n) (y := x.d) (by omega) m1 (by omega)
 exact Nat.le_trans (dD (by omega) (Nat.div_le_self _ _)) m3
def jq (x : Num) (k : Int) : Num := aG (dA (aG x k)) (-k)
end ae
section
variable (f : ae.Fr) (p : Int) (w : World) (hw : XW w) (hw0 : 0 < w.heap.size) (h1 : f.1.length <= 9223372036854775807) (h2 : f.2.length <= 9223372036854775807)
include hw0 h1 h2
end
end
section
open Go.RowKit
open Sym
attribute [local irreducible] Calls Sym.bM ae.nd ae.bu ae.upd
theorem Px (w : World) : Calls Tryz.prog 198 #[] w (fF .i64 10 ⟨false, 1, 2⟩ w) := by
 obtain ⟨i0, hi, hz0, hz1, hz2⟩ := info_parts jw
 have hu := underlying70
 have hsz := fun w => sizeOf3 w
 have hzv := fun w => zeroValue3 w
 have hn1 : ae.nd 10 1 = 1 := ae.gq (by omega)
 have hv1 : nv .i64 10 1 = [.int .i64 1] := oO (by omega)
 have hn2 : ae.nd 10 2 = 1 := ae.wI (by omega) (by omega) (.inr (by omega))
 have hv2 : nv .i64 10 2 = [.int .i64 2] := by unfold nv ae.dg; rw [hn2, ae.rD (by omega)]; rfl
 refine yE func198 rfl results198 ntmps198 [] [] [] w ?_
 repeat' (first | exact ⟨⟩ | refine yG ?_ ?_ | (refine aI (sz := 1) rfl rfl rfl (xs := [.int .i64 1]) (fun β => rfl) rfl (by omega) (by omega) hu hsz hzv (fun g1 => ?_)) | (refine aI (sz := 1) rfl rfl rfl (xs := [.int .i64 2]) (fun β => rfl) rfl (by omega) (by omega) hu hsz hzv (fun g2 => ?_)) | intro _)
 all_goals refine ret fun β w' hm => ?_
 all_goals exact ⟨⟨false, 1, 2, some ⟨g1, 0, none⟩, 1, some ⟨g2, 0, none⟩, 1⟩, by simp only [bI.val, hn1, hn2]; rfl, rfl, ⟨(fun h => by cases h), (fun h => by cases h), by dsimp only; omega, by dsimp only; omega⟩, oK (by dsimp only; rw [hv1]; exact (hm.own 1 rfl).1) (by dsimp only; rw [hv1]; exact bY (hm.own 1 rfl).2.1 rfl) (by dsimp only; rw [hv2]; exact (hm.own 2 rfl).1) (by dsimp only; rw [hv2]; exact bY (hm.own 2 rfl).2.1 rfl), hm.below⟩
section
variable (x : bI) (w : World) (hw0 : 0 < w.heap.size) (hx : aX .i64 10 x w) (hd : 0 < x.d) (ng : ae.nd 10 x.n <= 100000) (hxd : ae.nd 10 x.d <= 100000)
include hw0 hx hd ng hxd
theorem Ew (hm : x.m = false) : Calls Tryz.prog 157 #[x.val 10] w (fF .i64 10 (ae.dA x.num) w) := by
 have hn1 : ae.nd 10 1 = 1 := ae.gq (by omega)
 have hn2 : ae.nd 10 2 = 1 := ae.wI (by omega) (by omega) (.inr (by omega))
 obtain ⟨m, n, d, a, c, b, e⟩ := x
 dsimp only at hm hd ng hxd
 subst hm
 have AD := fun ha hc hb he (w' : World) (h : BW w w') h2 => wO ⟨false, n, d, a, c, b, e⟩ ⟨false, 1, 2, ha, hc, hb, he⟩ w' (zl hw0 h.size) (hx.below h) h2 (by dsimp only; omega) (by dsimp only; omega) (by dsimp only; omega) (by dsimp only; omega)
 have hS : ae.fP ⟨false, n, d⟩ ⟨false, 1, 2⟩ = ⟨false, n + n + d, d + d⟩ := by
  rw [ae.fP, if_pos rfl]
  simp only [Nat.mul_two, Nat.one_mul]
 have m1 := ae.rV (b := 10) (m := 100000) (by omega) ng ng
 have m2 := ae.rV (b := 10) (m := 100000) (by omega) hxd hxd
 have m3 := ae.rV (b := 10) (m := 100001) (x := n + n) (y := d) (by omega) m1 (by omega)
 have hD : 0 < d + d := by omega
 dsimp only [bI.num, bI.val, ae.dA] at *
 rw [hS] at AD
 clear hS
 generalize n + n + d = T at *
 generalize d + d = D at *
 have FL := fun a1 c1 a2 c2 (w' : World) (h : BW w w') h2 => LJ ⟨false, T, D, a1, c1, a2, c2⟩ w' (zl hw0 h.size) h2 hD (by dsimp only; omega) (by dsimp only; omega)
 have hF : ae.FI ⟨false, T, D⟩ = ⟨false, T / D, 1⟩ := by unfold ae.FI; simp
 dsimp only [bI.num, bI.val] at FL
 rw [hF] at FL
 clear hF
 refine yE func157 rfl results157 ntmps157 [] [200003] [.agg [.bool false, .any (.slice a (ae.nd 10 n) c), .any (.slice b (ae.nd 10 d) e)]] w ?_
 repeat' (first | exact ⟨⟩ | refine yG ?_ ?_ | (refine dF .i64 10 ⟨false, 1, 2⟩ hw0 (by kernel_rfl) rfl (fun β w' hm => Px w') (fun a1 c1 a2 c2 hc1 => ?_)) | (refine dF .i64 10 ⟨false, T, D⟩ hw0 (by kernel_rfl) rfl (fun β w' hm => AD a1 c1 a2 c2 w' hm.below (aX.of (hm.dS 2 rfl) (hm.dS 3 rfl) hc1)) (fun a3 c3 a4 c4 hc2 => ?_)) | (refine dF .i64 10 ⟨false, T / D, 1⟩ hw0 (by kernel_rfl) rfl (fun β w' hm => FL a3 c3 a4 c4 w' hm.below (aX.of (hm.dS 4 rfl) (hm.dS 5 rfl) hc2)) (fun a5 c5 a6 c6 hc3 => ?_)) | intro _)
 all_goals first | (exfalso; omega) | (exfalso; clear AD FL; simp_all; done) | skip
 all_goals refine ret fun β w' hm => ?_
 all_goals exact ⟨⟨false, T / D, 1, a5, c5, a6, c6⟩, rfl, rfl, hc3, oK (hm.dS 6 rfl) (hm.di 6 rfl rfl) (hm.dS 7 rfl) (hm.di 7 rfl rfl), hm.below⟩
theorem Eu : Calls Tryz.prog 157 #[x.val 10] w (fF .i64 10 (ae.dA x.num) w) := by
 obtain ⟨m, n, d, a, c, b, e⟩ := x
 cases m with
 | false => exact Ew _ w hw0 hx hd ng hxd rfl
 | true =>
   have NP := fun (w' : World) (h : BW w w') => Ew ⟨false, n, d, a, c, b, e⟩ w' (zl hw0 h.size) ⟨hx.sn.below h, hx.sd.below h, ⟨hx.cap.an, hx.cap.bn, hx.cap.cn, hx.cap.cd⟩⟩ hd ng hxd rfl
   dsimp only [bI.num, bI.val, ae.dA] at *
   generalize (n + n + d) / (d + d) = Q at *
   refine yE func157 rfl results157 ntmps157 [] [] [.agg [.bool true, .any (.slice a (ae.nd 10 n) c), .any (.slice b (ae.nd 10 d) e)]] w ?_
   repeat' (first | exact ⟨⟩ | refine yG ?_ ?_ | refine yK (.agg [.bool false, .any (.slice a (ae.nd 10 n) c), .any (.slice b (ae.nd 10 d) e)]) (fun β w hm => Jo true a b _ c _ e w) ?_ | (refine dF .i64 10 ⟨false, Q, 1⟩ hw0 (by kernel_rfl) rfl (fun β w' hm => NP w' hm.below) (fun a5 c5 a6 c6 hc3 => ?_)) | refine yK (.agg [.bool true, .any (.slice a5 (ae.nd 10 Q) c5), .any (.slice a6 (ae.nd 10 1) c6)]) (fun β w hm => Jo false a5 a6 _ c5 _ c6 w) ?_ | intro _)
   all_goals first | (exfalso; omega) | (exfalso; clear NP; simp_all; done) | skip
   all_goals refine ret fun β w' hm => ?_
   all_goals exact ⟨⟨true, Q, 1, a5, c5, a6, c6⟩, rfl, rfl, ⟨hc3.an, hc3.bn, hc3.cn, hc3.cd⟩, oK (hm.dS 2 rfl) (hm.di 2 rfl rfl) (hm.dS 3 rfl) (hm.di 3 rfl rfl), hm.below⟩
end
section
variable (x : bI) (p : Int) (w : World) (hw0 : 0 < w.heap.size) (hx : aX .i64 10 x w) (hd : 0 < x.d) (ng : ae.nd 10 x.n <= 10000) (hxd : ae.nd 10 x.d <= 10000) (hp : p.natAbs <= 10000)
include hw0 hx hd ng hxd hp
theorem LK : Calls Tryz.prog 102 #[x.val 10, .int .i64 p] w (fF .i64 10 (ae.jq x.num p) w) := by
 unfold ae.jq
 obtain ⟨m, n, d, a, c, b, e⟩ := x
 have eN : bI.num ⟨m, n, d, a, c, b, e⟩ = ⟨m, n, d⟩ := rfl
 rw [eN]
 obtain ⟨b1, b2, b3, b4⟩ := ae.lh (b := 10) (x := ⟨m, n, d⟩) (by omega) ng hxd hp hd
 have b5 := ae.tZ (b := 10) (by omega) b1 b2
 have b6 : ae.nd 10 (ae.dA (ae.aG ⟨m, n, d⟩ p)).d <= 10000 := by show ae.nd 10 1 <= _; rw [ae.gq (by omega)]; omega
 have S1 := fun (w' : World) (h : BW w w') => qH ⟨m, n, d, a, c, b, e⟩ p w' (zl hw0 h.size) (by omega) (hx.below h) (by dsimp only at *; omega) (by dsimp only at *; omega)
 have S3 := fun a1 c1 a2 c2 (w' : World) (h : BW w w') hx => qH ⟨(ae.dA (ae.aG ⟨m, n, d⟩ p)).m, (ae.dA (ae.aG ⟨m, n, d⟩ p)).n, (ae.dA (ae.aG ⟨m, n, d⟩ p)).d, a1, c1, a2, c2⟩ (0 - p) w' (zl hw0 h.size) (by omega) hx (by dsimp only; omega) (by dsimp only; omega)
 have eta : ∀ X : ae.Num, (⟨X.m, X.n, X.d⟩ : ae.Num) = X := fun _ => rfl
 dsimp only [bI.num, bI.val] at S1 S3
 simp only [eta, Int.zero_sub] at S3
 have S2 := fun a1 c1 a2 c2 (w' : World) (h : BW w w') hx => Eu ⟨(ae.aG ⟨m, n, d⟩ p).m, (ae.aG ⟨m, n, d⟩ p).n, (ae.aG ⟨m, n, d⟩ p).d, a1, c1, a2, c2⟩ w' (zl hw0 h.size) hx b3 (by dsimp only; omega) (by dsimp only; omega)
 dsimp only [bI.num, bI.val] at S2
 simp only [eta] at S2
 generalize ae.aG (ae.dA (ae.aG ⟨m, n, d⟩ p)) (-p) = X3 at *
 generalize ae.dA (ae.aG ⟨m, n, d⟩ p) = X2 at *
 generalize ae.aG ⟨m, n, d⟩ p = X1 at *
 obtain ⟨m1, n1, d1⟩ := X1
 obtain ⟨m2, n2, d2⟩ := X2
 obtain ⟨m3, n3, d3⟩ := X3
 obtain ⟨hx1, hx2, hx3⟩ := hx
 dsimp only at *
 simp only [<- Int.zero_sub p] at S3
 refine yE func102 rfl results102 ntmps102 [] [] [.agg [.bool m, .any (.slice a (ae.nd 10 n) c), .any (.slice b (ae.nd 10 d) e)], .int .i64 p] w ?_
 repeat' (first | exact ⟨⟩ | refine yG ?_ ?_ | (refine Ac (Lz n a (Lz d b [])) .i64 10 ⟨m1, n1, d1⟩ hw0 (by kernel_rfl) rfl (jE (Nat.le_of_ble_eq_true rfl) hx1 rfl (jE (Nat.le_of_ble_eq_true rfl) hx2 rfl iD)) (fun β w' hm => S1 w' hm.below) (fun a3 c3 a4 c4 hc2 => ?_)) | (refine dF .i64 10 ⟨m2, n2, d2⟩ hw0 (by kernel_rfl) rfl (fun β w' hm => S2 a3 c3 a4 c4 w' hm.below (aX.of (hm.Tz 2 rfl) (hm.Tz 3 rfl) hc2)) (fun a5 c5 a6 c6 hc3 => ?_)) | (refine Ad (Lz n2 a5 (Lz d2 a6 [])) .i64 10 ⟨m3, n3, d3⟩ hw0 (by kernel_rfl) rfl (oz 4 (Nat.le_of_ble_eq_true rfl) rfl (oz 5 (Nat.le_of_ble_eq_true rfl) rfl Ai)) (fun β w' hm => S3 a5 c5 a6 c6 w' hm.below (aX.of (hm.dS 4 rfl) (hm.dS 5 rfl) hc3)) (fun a7 c7 a8 c8 hc4 => ?_)) | intro _)
 all_goals first | (exfalso; omega) | skip
 all_goals refine ret fun β w' hm => ?_
 all_goals exact ⟨⟨m3, n3, d3, a7, c7, a8, c8⟩, rfl, rfl, hc4, oK (hm.dS 6 rfl) (hm.di 6 rfl rfl) (hm.dS 7 rfl) (hm.di 7 rfl rfl), hm.below⟩
end
end
section
open Go.RowKit
open Sym
attribute [local irreducible] Calls Sym.bM ae.nd ae.bu ae.upd
namespace ae
def ny (s : Str) (k : Nat) : Str := List.replicate (k + 1 - s.length) 48 ++ s
def Be (s : Str) (k : Nat) : Str := if 0 < k then s.take (s.length - k) ++ [46] ++ s.drop (s.length - k) else s
def jo (x : Num) (k : Nat) : Str :=
 let t := Be (ny (Lib.decDigits x.n) k) k
 if x.m = true /\ x.n ≠ 0 then 45 :: t else t
theorem NL (s : Str) (k : Nat) : (ny s k).length = (k + 1 - s.length) + s.length := by simp [ny]
end ae
theorem zi (x : bI) (k : Nat) (w : World) (hw : XW w) (hk : k <= 100000) (hx : aX .u32 1000000000 x w) (ng : ae.nd 1000000000 x.n <= 1000000) (hl : (Lib.decDigits x.n).length <= 1000000) :
  QC 218 #[x.val 1000000000, .int .i64 (k : Int)] w (.string (ah (ae.jo x.num k))) := by
 obtain ⟨m, n, d, a, c, b, e⟩ := x
 obtain ⟨hx1, hx2, -⟩ := hx
 dsimp only [bI.num, bI.val] at *
 have HT := fun (w' : World) (h : BW w w') => JU a c n w' (hw.below h) ng (hx1.below h)
 have HZ := fun w => lH a (ae.nd 1000000000 n) c w
 have hz : ((ae.nd 1000000000 n : Nat) : Int) = 0 ↔ n = 0 := by
  have := ae.fM (b := 1000000000) (x := n) (by omega)
  omega
 have hF : ae.jo ⟨m, n, d⟩ k = if m = true /\ n ≠ 0 then 45 :: ae.Be (ae.ny (Lib.decDigits n) k) k else ae.Be (ae.ny (Lib.decDigits n) k) k := rfl
 rw [hF]
 clear hF
 generalize Lib.decDigits n = L at *
 obtain ⟨j, hj⟩ : ∃ j, j = k + 1 - L.length := ⟨_, rfl⟩
 have HR := fun w => Ce j w (by omega)
 have hmx : max (0 : Int) ((k : Int) + 1 - (L.length : Int)) = (j : Int) := by omega
 have hP := ae.NL L k
 have hP2 : List.replicate j 48 ++ L = ae.ny L k := by rw [hj]; rfl
 rw [<- hj] at hP
 have hR : (List.replicate j (48 : UInt8)).length = j := by simp
 generalize List.replicate j (48 : UInt8) = Z at *
 have hd : ae.Be (ae.ny L k) k = if 0 < k then (ae.ny L k).take ((ae.ny L k).length - k) ++ [46] ++ (ae.ny L k).drop ((ae.ny L k).length - k) else ae.ny L k := rfl
 rw [hd]
 clear hd
 rw [<- hP2] at *
 clear hP2
 have hZL : (Z ++ L).length = j + L.length := by rw [List.length_append, hR]
 obtain ⟨i, hi⟩ : ∃ i, i = (Z ++ L).length - k := ⟨_, rfl⟩
 rw [<- hi]
 refine yE func218 rfl results218 ntmps218 [] [] [.agg [.bool m, .any (.slice a (ae.nd 1000000000 n) c), .any (.slice b (ae.nd 1000000000 d) e)], .int .i64 (k : Int)] w ?_
 repeat' (first | exact ⟨⟩ | refine yG ?_ ?_ | refine yB (.str L) (fun _ => HT) ?_ | refine yK (.str Z) (fun β w hm => by simp only [SV.aF, SV.den]; rw [hmx]; exact HR w) ?_ | refine yK (.prop (((ae.nd 1000000000 n : Nat) : Int) = 0) inferInstance) (fun β w hm => HZ w) ?_ | ((with_reducible show ∃ _, _); first | (refine ⟨i, by omega, by omega, ?_⟩)) | intro _)
 all_goals (by_cases e1 : 0 < k)
 all_goals first | (exfalso; omega) | skip
 all_goals simp only [e1, if_true, if_false]
 all_goals first | (rw [if_pos ⟨‹_›, by omega⟩]; rfl) | (rw [if_neg (by rintro ⟨h1, h2⟩; first | omega | simp_all)]; rfl) | fail
end
section
open Go.RowKit
open Sym
attribute [local irreducible] Calls Sym.bM ae.nd ae.bu ae.upd ae.ak ae.ay
def Yk (s : List UInt8) (err : Int) (w : World) (e : Ending) (w' : World) : Prop := e = .returned (.tuple #[.string (ah s), .int .i64 err]) /\ BW w w'
theorem ae.iL {n A : Nat} (h : ae.nd 10 n <= A) (hA : 1 <= A) : (Lib.decDigits n).length <= A := by
 rcases Nat.eq_zero_or_pos n with rfl | h0
 ·rw [Lib.decDigits_one (by omega)]; simpa using hA
 ·rw [ae.uV h0]; exact h
section
variable (f : ae.Fr) (p : Int) (w : World) (hw : XW w) (hw0 : 0 < w.heap.size) (h1 : f.1.length <= 9223372036854775807) (h2 : f.2.length <= 9223372036854775807)
include hw0 h1 h2
include hw
theorem Rj (k : Nat) (hE : ae.bQ f = 0) (hk : k <= 100) :
  Calls Tryz.prog 195 #[iI f, .int .i64 (k : Int)] w (Yk (if ae.ay (ae.jq (ae.az f) k) = 0 then ae.jo (ae.dA (ae.aG (ae.az f) k)) k else []) (ae.ay (ae.jq (ae.az f) k)) w) := by
 obtain ⟨p, hp⟩ : ∃ p : Int, p = (k : Int) := ⟨_, rfl⟩
 rw [<- hp]
 have R1 := fun (w' : World) (h : BW w w') => pO f w' (zl hw0 h.size) h1 h2
 obtain ⟨q1, q2, q3⟩ := ae.fZ hE (b := 1000000000) (by omega)
 obtain ⟨s1, s2, -⟩ := ae.fZ hE (b := 10) (by omega)
 rw [ae.sF hE, hE] at R1
 unfold ae.jq
 have W1 := fun (x : bI) (w' : World) (h : BW w w') => write_any x w' (hw.below h) (zl hw0 h.size)
 have D1 := fun (x : bI) (w' : World) (h : BW w w') => zi x k w' (hw.below h) (by omega)
 rw [<- hp] at D1
 generalize ae.az f = V at *
 have hpk : p.natAbs <= 100 := by omega
 obtain ⟨b1, b2, b3, b4⟩ := ae.lh (b := 1000000000) (by omega) q1 q2 hpk q3
 have b5 := ae.tZ (b := 1000000000) (by omega) b1 b2
 obtain ⟨e1, e2, -, -⟩ := ae.lh (b := 10) (by omega) s1 s2 hpk q3
 have e5 := ae.iL (ae.tZ (b := 10) (by omega) e1 e2) (by omega)
 have b6 : ae.nd 1000000000 (ae.dA (ae.aG V p)).d <= 300 + (100 + 1) + 2 := by show ae.nd 1000000000 1 <= _; rw [ae.gq (by omega)]; omega
 have b7 : 0 < (ae.dA (ae.aG V p)).d := Nat.one_pos
 have hnk : (-p).natAbs <= 100 := by omega
 obtain ⟨b8, b9, b10, b11⟩ := ae.lh (b := 1000000000) (by omega) b5 b6 hnk b7
 have S1 := fun a1 c1 a2 c2 (w' : World) (h : BW w w') hx => EC ⟨V.m, V.n, V.d, a1, c1, a2, c2⟩ p w' (zl hw0 h.size) (by omega) hx (by dsimp only; omega) (by dsimp only; omega)
 have S3 := fun a1 c1 a2 c2 (w' : World) (h : BW w w') hx => EC ⟨(ae.dA (ae.aG V p)).m, (ae.dA (ae.aG V p)).n, (ae.dA (ae.aG V p)).d, a1, c1, a2, c2⟩ (0 - p) w' (zl hw0 h.size) (by omega) hx (by dsimp only; omega) (by dsimp only; omega)
 have eta : ∀ X : ae.Num, (⟨X.m, X.n, X.d⟩ : ae.Num) = X := fun _ => rfl
 dsimp only [bI.num, bI.val] at S1 S3
 simp only [eta, Int.zero_sub] at S1 S3
 have S2 := fun a1 c1 a2 c2 (w' : World) (h : BW w w') hx => Jq ⟨(ae.aG V p).m, (ae.aG V p).n, (ae.aG V p).d, a1, c1, a2, c2⟩ w' (zl hw0 h.size) hx b3 (by dsimp only; omega) (by dsimp only; omega)
 dsimp only [bI.num, bI.val] at S2
 simp only [eta] at S2
 generalize ae.aG (ae.dA (ae.aG V p)) (-p) = X3 at *
 generalize ae.dA (ae.aG V p) = X2 at *
 generalize ae.aG V p = X1 at *
 obtain ⟨m, n, d⟩ := V
 obtain ⟨m1, n1, d1⟩ := X1
 obtain ⟨m2, n2, d2⟩ := X2
 obtain ⟨m3, n3, d3⟩ := X3
 dsimp only at *
 simp only [<- Int.zero_sub p] at S3
 have eF := fun a5 c5 a6 c6 => (rfl : bI.num ⟨m2, n2, d2, a5, c5, a6, c6⟩ = ⟨m2, n2, d2⟩)
 generalize hT : ae.jo ⟨m2, n2, d2⟩ k = T at *
 generalize hWE : ae.ay ⟨m3, n3, d3⟩ = E at *
 obtain ⟨f1, f2⟩ := f
 refine yE func195 rfl results195 ntmps195 [] [] [.agg [.str f1, .str f2], .int .i64 p] w ?_
 repeat' (first | exact ⟨⟩ | refine yG ?_ ?_ | (refine eG .u32 1000000000 ⟨m, n, d⟩ 0 hw0 (by kernel_rfl) rfl (fun β w' hm => R1 w' hm.below) (fun a1 c1 a2 c2 hc1 => ?_)) | (refine Ac (Lz n a1 (Lz d a2 [])) .u32 1000000000 ⟨m1, n1, d1⟩ hw0 (by kernel_rfl) rfl (cu 1 (Nat.le_of_ble_eq_true rfl) rfl (cu 2 (Nat.le_of_ble_eq_true rfl) rfl iD)) (fun β w' hm => S1 a1 c1 a2 c2 w' hm.below (aX.of (hm.dS 1 rfl) (hm.dS 2 rfl) hc1)) (fun a3 c3 a4 c4 hc2 => ?_)) | (refine dF .u32 1000000000 ⟨m2, n2, d2⟩ hw0 (by kernel_rfl) rfl (fun β w' hm => S2 a3 c3 a4 c4 w' hm.below (aX.of (hm.Tz 4 rfl) (hm.Tz 5 rfl) hc2)) (fun a5 c5 a6 c6 hc3 => ?_)) | (refine Ac (Lz n2 a5 (Lz d2 a6 [])) .u32 1000000000 ⟨m3, n3, d3⟩ hw0 (by kernel_rfl) rfl (cu 6 (Nat.le_of_ble_eq_true rfl) rfl (cu 7 (Nat.le_of_ble_eq_true rfl) rfl iD)) (fun β w' hm => S3 a5 c5 a6 c6 w' hm.below (aX.of (hm.dS 6 rfl) (hm.dS 7 rfl) hc3)) (fun a7 c7 a8 c8 hc4 => ?_)) | refine yK (.bg [.agg [.str (ae.ak ⟨m3, n3, d3⟩).1, .str (ae.ak ⟨m3, n3, d3⟩).2], .int .i64 E]) (fun β w hm => by rw [<- hWE]; exact W1 ⟨m3, n3, d3, a7, c7, a8, c8⟩ w hm.below (aX.of (hm.Tz 9 rfl) (hm.Tz 10 rfl) hc4) b10 (by dsimp only; omega) (by dsimp only; omega)) ?_ | refine yK (.str T) (fun β w hm => by rw [<- hT]; exact D1 ⟨m2, n2, d2, a5, c5, a6, c6⟩ w hm.below (aX.of (hm.dS 6 rfl) (hm.dS 7 rfl) hc3) (by dsimp only; omega) (by dsimp only; omega)) ?_ | intro _)
 all_goals first | (exfalso; omega) | (by_cases hE0 : E = 0 <;> simp_all [SV.den, SV.aF]; done) | skip
end
end
end Go.Proofs.YtdkhkfdenlabaaaGreatDoor
