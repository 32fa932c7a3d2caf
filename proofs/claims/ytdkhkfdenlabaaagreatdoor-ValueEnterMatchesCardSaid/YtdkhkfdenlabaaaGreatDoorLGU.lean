/- Decimal numbers read: the reference's helpers. Powers of ten and scaling, the program's and the reference's Decimal numbers read: the reference's ReadDecimal. The law of reading decimal numbers. Square roots of the program's numbers. Square roots of the program's fractions; the reference's Flo Rounding: the program's Floor, scaled, rounded and Round. Rounding: the program's Round. Rounding: the reference's Half, Nearest and Round. -/
import Derived.Test.YtdkhkfdenlabaaaGreatDoorLGG
import Derived.Test.YtdkhkfdenlabaaaGreatDoorLGD
import Derived.Test.YtdkhkfdenlabaaaGreatDoorLGN
import Derived.Test.YtdkhkfdenlabaaaGreatDoorLGM
import Derived.Test.YtdkhkfdenlabaaaGreatDoorLGO
import Derived.Test.YtdkhkfdenlabaaaGreatDoorLGT
set_option linter.unusedSimpArgs false
set_option linter.unusedVariables false
set_option maxRecDepth 100000
set_option maxHeartbeats 64000000
namespace Go.Proofs.YtdkhkfdenlabaaaGreatDoor
open Go.RowKit
open Sym
attribute [local irreducible] Calls Sym.AggEq ExP.nd ExP.dig ExP.upd
theorem rdig_any (c : UInt8) (w : World) : QC 125 #[.int .u8 (c.toNat : Int)] w (.bool (ExP.digC c)) := by
 have hc := c.toNat_lt
 have hd : ExP.digC c = (decide (48 ≤ c.toNat) && decide (c.toNat ≤ 57)) := by
  rw [Bool.eq_iff_iff, ExP.digC_nat]; simp
 rw [hd]
 refine yE Tryz.func125 rfl Tryz.results125 Tryz.ntmps125 [] [] [.int .u8 (c.toNat : Int)] w ?_
 repeat' (first | refine yX ?_ | (apply And.intro <;> intro _) | apply bothI | refine retB fun β => ?_ | intro βe | exact trivial)
 all_goals (simp only [SV.den]; congr 1; rw [Bool.eq_iff_iff]; simp; omega)
theorem has_any (s : List UInt8) (c : UInt8) (w : World) (hs : s.length ≤ 9223372036854775807) : QC 122 #[.string (bstr s), .string (bstr [c])] w (.bool (s.head? == some c)) := by
 refine yE Tryz.func122 rfl Tryz.results122 Tryz.ntmps122 [] [] [.str s, .str [c]] w ?_
 cases s with
 | nil =>
   repeat' (first | refine yX ?_ | (apply And.intro <;> intro _) | apply bothI | refine retB fun β => ?_ | intro βe | exact trivial)
   all_goals first | rfl | (exfalso; simp_all; done) | (exfalso; omega)
 | cons d r =>
   repeat' (first | refine yX ?_ | (apply And.intro <;> intro _) | apply bothI | refine retB fun β => ?_ | intro βe | ((with_reducible show ∃ _, _); first | (refine ⟨1, rfl, by simp, ?_⟩)) | exact trivial)
   all_goals first | (exfalso; simp_all; done) | (exfalso; simp_all; omega) | skip
   all_goals (simp [SV.den]; try (rw [Bool.eq_iff_iff]; simp))
theorem head_drop (s : List UInt8) (n : Nat) (h : n < s.length) : s.drop n = s.getD n 0 :: s.drop (n + 1) := by rw [List.drop_eq_getElem_cons h, List.getD_eq_getElem?_getD, List.getElem?_eq_getElem h]; rfl
theorem span_any (s : List UInt8) (w : World) (hs : s.length ≤ 9223372036854775807) : QC 123 #[.string (bstr s), .func (.func 125) #[] #[]] w (.int .i64 ((ExP.runD s).length : Nat)) := by
 refine yE Tryz.func123 rfl Tryz.results123 Tryz.ntmps123 [] [] [.str s, .fn 125 []] w ?_
 repeat' (first | refine yX ?_ | (apply And.intro <;> intro _) | apply bothI | refine retB fun β => ?_ | intro βe | exact trivial)
 refine yZ (T := {n : Nat // n ≤ s.length ∧ (ExP.runD s).length = n + (ExP.runD (s.drop n)).length}) (fun t => ⟨[(0, .str s), (1, .fn 125 []), (7, .int .i64 (s.length : Nat)), (8, .int .i64 (t.1 : Nat))], [], 0, 21⟩) (fun t => s.length - t.1) ⟨0, Nat.zero_le _, by simp⟩ [] [] (fun t I hI => ?_) (by dsimp only; ((with_reducible show wk _ _); repeat' (first | exact trivial | exact eqSV_refl _ | refine eqI ?_ | refine eqS ?_ | apply And.intro | exact yV | fail)))
 obtain ⟨n, hn, hr⟩ := t
 dsimp only
 by_cases hlt : n < s.length
 ·rw [head_drop s n hlt] at hr
  by_cases hc : ExP.digC (s.getD n 0) = true
  ·have hd := fun w => rdig_any (s.getD n 0) w
   rw [hc] at hd
   unfold ExP.runD at hr
   rw [List.takeWhile_cons_of_pos hc] at hr
   repeat' (first | refine yX ?_ | (apply And.intro <;> intro _) | apply bothI | refine retB fun β => ?_ | intro βe | refine yK (.lit true) (fun β w hm => hd w) ?_ | ((with_reducible show ∃ _, _); first | (refine ⟨n, rfl, by omega, ?_⟩)) | exact trivial)
   exact hI _ ⟨n + 1, by omega, by unfold ExP.runD; rw [hr]; simp; omega⟩ (by dsimp only; omega) (by dsimp only; ((with_reducible show wk _ _); repeat' (first | exact trivial | exact eqSV_refl _ | refine eqI ?_ | refine eqS ?_ | apply And.intro | exact yV | fail)))
  ·have hd := fun w => rdig_any (s.getD n 0) w
   rw [Bool.eq_false_iff.2 hc] at hd
   unfold ExP.runD at hr
   rw [List.takeWhile_cons_of_neg hc] at hr
   have hr2 : (ExP.runD s).length = n := by unfold ExP.runD; rw [hr]; rfl
   rw [hr2]
   repeat' (first | refine yX ?_ | (apply And.intro <;> intro _) | apply bothI | refine retB fun β => ?_ | intro βe | refine yK (.lit false) (fun β w hm => hd w) ?_ | ((with_reducible show ∃ _, _); first | (refine ⟨n, rfl, by omega, ?_⟩)) | exact trivial)
   all_goals rfl
 ·have : n = s.length := by omega
  subst this
  rw [List.drop_of_length_le (Nat.le_refl _)] at hr
  have hr2 : (ExP.runD s).length = s.length := hr
  rw [hr2]
  repeat' (first | refine yX ?_ | (apply And.intro <;> intro _) | apply bothI | refine retB fun β => ?_ | intro βe | exact trivial)
  all_goals rfl
theorem all_any (s : List UInt8) (w : World) (hs : s.length ≤ 9223372036854775807) : QC 36 #[.string (bstr s), .func (.func 125) #[] #[]] w (.bool (s.all ExP.digC)) := by
 refine yE Tryz.func36 rfl Tryz.results36 Tryz.ntmps36 [] [] [.str s, .fn 125 []] w ?_
 repeat' (first | refine yX ?_ | (apply And.intro <;> intro _) | apply bothI | refine retB fun β => ?_ | intro βe | exact trivial)
 refine yZ (T := {n : Nat // n ≤ s.length ∧ s.all ExP.digC = (s.drop n).all ExP.digC}) (fun t => ⟨[(0, .str s), (1, .fn 125 []), (7, .int .i64 (s.length : Nat)), (8, .int .i64 (t.1 : Nat))], [], 0, 18⟩) (fun t => s.length - t.1) ⟨0, Nat.zero_le _, by simp⟩ [] [] (fun t I hI => ?_) (by dsimp only; ((with_reducible show wk _ _); repeat' (first | exact trivial | exact eqSV_refl _ | refine eqI ?_ | refine eqS ?_ | apply And.intro | exact yV | fail)))
 obtain ⟨n, hn, hr⟩ := t
 dsimp only
 by_cases hlt : n < s.length
 ·rw [head_drop s n hlt, List.all_cons] at hr
  by_cases hc : ExP.digC (s.getD n 0) = true
  ·have hd := fun w => rdig_any (s.getD n 0) w
   rw [hc] at hd hr
   repeat' (first | refine yX ?_ | (apply And.intro <;> intro _) | apply bothI | refine retB fun β => ?_ | intro βe | refine yK (.lit true) (fun β w hm => hd w) ?_ | ((with_reducible show ∃ _, _); first | (refine ⟨n, rfl, by omega, ?_⟩)) | exact trivial)
   exact hI _ ⟨n + 1, by omega, by rw [hr]; simp⟩ (by dsimp only; omega) (by dsimp only; ((with_reducible show wk _ _); repeat' (first | exact trivial | exact eqSV_refl _ | refine eqI ?_ | refine eqS ?_ | apply And.intro | exact yV | fail)))
  ·have hd := fun w => rdig_any (s.getD n 0) w
   rw [Bool.eq_false_iff.2 hc] at hd hr
   rw [Bool.false_and] at hr
   rw [hr]
   repeat' (first | refine yX ?_ | (apply And.intro <;> intro _) | apply bothI | refine retB fun β => ?_ | intro βe | refine yK (.lit false) (fun β w hm => hd w) ?_ | ((with_reducible show ∃ _, _); first | (refine ⟨n, rfl, by omega, ?_⟩)) | exact trivial)
   all_goals rfl
 ·rw [List.drop_of_length_le (by omega)] at hr
  rw [hr]
  repeat' (first | refine yX ?_ | (apply And.intro <;> intro _) | apply bothI | refine retB fun β => ?_ | intro βe | exact trivial)
  all_goals rfl
theorem allDigits_any (s : List UInt8) (w : World) (hs : s.length ≤ 9223372036854775807) : QC 127 #[.string (bstr s)] w (.bool (!s.isEmpty && s.all ExP.digC)) := by
 have HA := fun w => all_any s w hs
 have he : s.isEmpty = decide (s = []) := by cases s <;> simp
 rw [he]
 generalize s.all ExP.digC = b at *
 refine yE Tryz.func127 rfl Tryz.results127 Tryz.ntmps127 [] [] [.str s] w ?_
 repeat' (first | refine yX ?_ | (apply And.intro <;> intro _) | apply bothI | refine retB fun β => ?_ | intro βe | refine yK (.bool b) (fun β w hm => HA w) ?_ | exact trivial)
 all_goals simp_all [SV.den]
theorem ExP.valF_take (s : List UInt8) (n : Nat) (h : n < s.length) : ExP.valS (s.take (n + 1)) = 10 * ExP.valS (s.take n) + ((s.getD n 0).toNat - 48) := by
 have e : s.take (n + 1) = s.take n ++ [s.getD n 0] := by
  rw [List.take_add_one, List.getD_eq_getElem?_getD, List.getElem?_eq_getElem h]; rfl
 rw [e, ExP.val_snoc, Nat.mul_comm]
theorem small_any (s : List UInt8) (w : World) (hs : s.length ≤ 3) (ha : s.all ExP.digC = true) : QC 132 #[.string (bstr s)] w (.int .i64 (ExP.valS s : Nat)) := by
 have hb : ∀ n, n ≤ s.length → ExP.valS (s.take n) < 1000 := fun n hn => by
  have h1 := ExP.val_lt _ (all_take ha n)
  have h2 : (s.take n).length ≤ 3 := by simp; omega
  exact Nat.lt_of_lt_of_le h1 (Nat.pow_le_pow_right (by omega) h2)
 refine yE Tryz.func132 rfl Tryz.results132 Tryz.ntmps132 [] [] [.str s] w ?_
 repeat' (first | refine yX ?_ | (apply And.intro <;> intro _) | apply bothI | refine retB fun β => ?_ | intro βe | exact trivial)
 refine yZ (T := {n : Nat // n ≤ s.length}) (fun t => ⟨[(0, .str s), (3, .int .i64 (ExP.valS (s.take t.1) : Nat)), (6, .int .i64 (s.length : Nat)), (7, .int .i64 (t.1 : Nat))], [], 0, 20⟩) (fun t => s.length - t.1) ⟨0, Nat.zero_le _⟩ [] [] (fun t I hI => ?_) (by dsimp only; rw [List.take_zero]; ((with_reducible show wk _ _); repeat' (first | exact trivial | exact eqSV_refl _ | refine eqI ?_ | refine eqS ?_ | apply And.intro | exact yV | fail)))
 obtain ⟨n, hn⟩ := t
 dsimp only
 have h1 := hb n hn
 by_cases hlt : n < s.length
 ·have h2 := hb (n + 1) (by omega)
  rw [ExP.valF_take s n hlt] at h2
  have hd := ExP.digC_nat.1 (all_at ha hlt)
  repeat' (first | refine yX ?_ | (apply And.intro <;> intro _) | apply bothI | refine retB fun β => ?_ | intro βe | ((with_reducible show ∃ _, _); first | (refine ⟨n, rfl, by omega, ?_⟩)) | exact trivial)
  all_goals exact hI _ ⟨n + 1, by omega⟩ (by dsimp only; omega) (by dsimp only; rw [ExP.valF_take s n hlt]; ((with_reducible show wk _ _); repeat' (first | exact trivial | exact eqSV_refl _ | refine eqI ?_ | refine eqS ?_ | apply And.intro | exact yV | fail)))
 ·have e : s.take n = s := List.take_of_length_le (by omega)
  rw [e]
  repeat' (first | refine yX ?_ | (apply And.intro <;> intro _) | apply bothI | refine retB fun β => ?_ | intro βe | exact trivial)
  all_goals rfl
def NumOut (k : IntKind) (b y : Nat) (f : Option Addr → Nat → Value) (w : World) (e : Ending) (w' : World) : Prop :=
 ∃ a cap, e = .returned (f a cap) ∧ SlAt a (nv k b y) w' ∧ FreshX a (nv k b y) w ∧ (a = none → cap = 0) ∧ ExP.nd b y ≤ cap ∧ BW w w'
theorem Sym.callNum {C : Ctx} {d : Nat} {f : FuncId} {args : List SV} {fr : List (Nat × SV)} {rows : List (Nat × Bool × SRow)} {nx n : Nat} {K : St → Prop} (k : IntKind) (b y : Nat) (V : Option Addr → Nat → SV) (h0 : 0 < C.base)
  (he : entersB C.P f = true) (hd : Nat.blt d n = true) (hv : ∀ a cap, (V a cap).ok nx) (hc : ∀ β w, Mem C.base C.w0 rows nx β w → Calls C.P f (SV.dens β args).toArray w (NumOut k b y (fun a cap => (V a cap).den β) w))
  (h : ∀ a cap, (a = none → cap = 0) → ExP.nd b y ≤ cap → K ⟨(d, V a cap) :: fr, (nx, false, .blob (SlF C.base a (nv k b y))) :: rows, nx + 1, n⟩) : CallX C (some d) f args ⟨fr, rows, nx, n⟩ K :=
 callSls (T := {t : Option Addr × Nat // (t.1 = none → t.2 = 0) ∧ ExP.nd b y ≤ t.2}) (fun t => V t.1.1 t.1.2) (fun t => [(t.1.1, nv k b y)]) h0 he hd (fun t => hv _ _)
  (fun β w hm => (hc β w hm).mono fun e w' ⟨a, cap, he, h1, h2, h3, h4, h5⟩ => ⟨h5, ⟨(a, cap), h3, h4⟩, he, fun p hp => by
   rw [List.mem_singleton] at hp; subst hp; exact ⟨h1, h2⟩⟩)
  (fun t _ => h t.1.1 t.1.2 t.2.1 t.2.2)
theorem ExP.nd_ten10 (k : Nat) : ExP.nd 10 (10 ^ k) = k + 1 := ExP.nd_eq (by omega) (Nat.pow_lt_pow_right (by omega) (Nat.lt_succ_self k)) (.inr (by simp))
theorem ten_row (k : Nat) : (List.replicate (k + 1) (Value.int .i64 0)).set k (.int .i64 1) = nv .i64 10 (10 ^ k) := by
 rw [rep_row 10, show (Value.int .i64 1) = Value.int .i64 ((1 : Nat) : Int) from rfl, valsK_set]
 unfold nv ExP.dg
 rw [ExP.nd_ten10, ExP.dgN_set (by omega) (by omega), ExP.upd_zero (Nat.pow_pos (by omega)), Nat.zero_add, Nat.one_mul]
theorem rten_any (k : Nat) (w : World) (hk : k ≤ 500000) : Calls Tryz.prog 180 #[.int .i64 (k : Int)] w (NatOut .i64 10 (10 ^ k) w) := by
 obtain ⟨i0, hi, hz0, hz1, hz2⟩ := info_parts intInfo
 have hu := Tryz.underlying70
 have hnd := ExP.nd_ten10 k
 have hrow := ten_row k
 refine yE Tryz.func180 rfl Tryz.results180 Tryz.ntmps180 [] [] [.int .i64 (k : Int)] w ?_
 repeat' (first | refine yX ?_ | (apply And.intro <;> intro _) | apply bothI | refine retB fun β => ?_ | intro βe | (refine opx_make (m := k + 1) rfl (by omega) rfl rfl hu hi hz0 hz1 rfl (by rw [hz2]; omega) (by unfold maxLen; omega) (fun g => ?_)) | (refine opx_store env_ok 0 (u := .int .i64 1) rfl rfl rfl rfl (fun β => rfl) rfl rfl (by omega) ?_) | refine yN (j := k) Tryz.underlying70 Tryz.sizeOf3 ?_ | exact trivial)
 all_goals first | (exfalso; omega) | skip
 all_goals refine ret fun β w' hm => ?_
 all_goals (
  have ho := hm.own 0 rfl
  rw [Nat.mul_one, hrow] at ho
  exact ⟨_, k + 1, by rw [hnd]; rfl, ho.1, fresh_own ho.2.1 rfl, (fun h => by cases h), by rw [hnd]; exact Nat.le_refl _, hm.below⟩)
section
variable (m : Bool) (n d : Nat) (a : Option Addr) (c : Nat) (b : Option Addr) (e : Nat) (k : Nat) (w : World)
theorem rscaled_pos (hw0 : 0 < w.heap.size) (hk : k ≤ 500000) (hn : ExP.nd 10 n ≤ 1000000) (hs : SlAt a (nv .i64 10 n) w) : Calls Tryz.prog 129 #[.agg #[.bool m, .slice a (ExP.nd 10 n) c, .slice b (ExP.nd 10 d) e], .int .i64 (k : Int)] w (NumOut .i64 10 (n * 10 ^ k) (fun a' c' => .agg #[.bool m, .slice a' (ExP.nd 10 (n * 10 ^ k)) c', .slice b (ExP.nd 10 d) e]) w) := by
 have hnt := ExP.nd_ten10 k
 refine yE Tryz.func129 rfl Tryz.results129 Tryz.ntmps129 [] [200002, 200003] [.agg [.bool m, .any (.slice a (ExP.nd 10 n) c), .any (.slice b (ExP.nd 10 d) e)], .int .i64 (k : Int)] w ?_
 repeat' (first | refine yX ?_ | (apply And.intro <;> intro _) | apply bothI | refine retB fun β => ?_ | intro βe | (refine callNat .i64 10 (10 ^ k) hw0 (by kernel_rfl) rfl (fun β w' hm => rten_any k w' hk) (fun a1 c1 q1 q2 q3 => ?_)) | (refine callNat .i64 10 (n * 10 ^ k) hw0 (by kernel_rfl) rfl (fun β w' hm => rtimes_any a a1 c c1 n (10 ^ k) w' (by omega) (by omega) (hs.below hm.below) (ySl hm)) (fun a2 c2 q4 q5 q6 => ?_)) | exact trivial)
 all_goals first | (exfalso; omega) | skip
 all_goals refine ret fun β w' hm => ?_
 all_goals exact ⟨a2, c2, rfl, (ySl hm), (yFr hm), q4, q5, hm.below⟩
theorem rscaled_neg (hw0 : 0 < w.heap.size) (hk0 : 0 < k) (hk : k ≤ 500000) (hd : ExP.nd 10 d ≤ 1000000) (hs : SlAt b (nv .i64 10 d) w) : Calls Tryz.prog 129 #[.agg #[.bool m, .slice a (ExP.nd 10 n) c, .slice b (ExP.nd 10 d) e], .int .i64 (-(k : Int))] w (NumOut .i64 10 (d * 10 ^ k) (fun a' c' => .agg #[.bool m, .slice a (ExP.nd 10 n) c, .slice a' (ExP.nd 10 (d * 10 ^ k)) c']) w) := by
 have hnt := ExP.nd_ten10 k
 refine yE Tryz.func129 rfl Tryz.results129 Tryz.ntmps129 [] [200002, 200003] [.agg [.bool m, .any (.slice a (ExP.nd 10 n) c), .any (.slice b (ExP.nd 10 d) e)], .int .i64 (-(k : Int))] w ?_
 repeat' (first | refine yX ?_ | (apply And.intro <;> intro _) | apply bothI | refine retB fun β => ?_ | intro βe | (refine callNat .i64 10 (10 ^ k) hw0 (by kernel_rfl) rfl (fun β w' hm => by simp only [SV.dens, SV.den]; rw [Int.zero_sub, Int.neg_neg]; exact rten_any k w' hk) (fun a1 c1 q1 q2 q3 => ?_)) | (refine callNat .i64 10 (d * 10 ^ k) hw0 (by kernel_rfl) rfl (fun β w' hm => rtimes_any b a1 e c1 d (10 ^ k) w' (by omega) (by omega) (hs.below hm.below) (ySl hm)) (fun a2 c2 q4 q5 q6 => ?_)) | exact trivial)
 all_goals first | (exfalso; omega) | skip
 all_goals refine ret fun β w' hm => ?_
 all_goals exact ⟨a2, c2, rfl, (ySl hm), (yFr hm), q4, q5, hm.below⟩
end
end Go.Proofs.YtdkhkfdenlabaaaGreatDoor
namespace Go.Proofs.YtdkhkfdenlabaaaGreatDoor
open Go.RowKit
open Sym
attribute [local irreducible] Calls Sym.AggEq ExP.nd ExP.dig ExP.upd ExP.writeF ExP.writeE
theorem cut_tail (s : List UInt8) : ExP.cutM s = (if s.head? = some 45 then s.tail else s, s.head? == some 45) := by
 unfold ExP.cutM
 by_cases h : s.head? = some 45
 ·rw [if_pos h, if_pos h, h]; rfl
 ·rw [if_neg h, if_neg h, beq_eq_false_iff_ne.2 h]
theorem head_cons {s : List UInt8} {c : UInt8} (h : s.head? = some c) : s = c :: s.tail := by
 cases s with
 | nil => cases h
 | cons d r => simp at h; subst h; rfl
theorem readDec_any (s : List UInt8) (N0 : ExP.Num) (E0 : Int) (w : World) (hw0 : 0 < w.heap.size) (hs : s.length ≤ 1000) (W P T rest : List UInt8) (m : Bool)
  (hcut : ExP.cutM s = (rest, m)) (hW : W = ExP.runD rest) (hP : P = ExP.parD (ExP.runR rest)) (hT : T = ExP.parR (ExP.runR rest))
  (hX : ExP.parX (ExP.runR rest) = true → N0 = ⟨false, 0, 0⟩ ∧ E0 = 10)
  (hXW : ExP.parX (ExP.runR rest) ≠ true → W = [] → N0 = ⟨false, 0, 0⟩ ∧ E0 = 10)
  (hXB : ExP.parX (ExP.runR rest) ≠ true → ExP.expB T = false → N0 = ⟨false, 0, 0⟩ ∧ E0 = 10)
  (hG : ExP.parX (ExP.runR rest) ≠ true → W ≠ [] → ExP.expB T = true → N0 = ExP.scaleN ⟨m, ExP.valS (W ++ P), 1⟩ (ExP.expV T - (P.length : Int)) ∧ E0 = ExP.writeE N0) :
  Calls Tryz.prog 128 #[.string (bstr s)] w (FrOutE .i64 10 N0 E0 w) := by
 have hlen := cutM_len s
 rw [hcut] at hlen
 dsimp only at hlen
 have hR := ExP.run_len rest
 have hr1 := ExP.run_take' rest
 have hr2 := ExP.run_drop rest
 refine yE Tryz.func128 rfl Tryz.results128 Tryz.ntmps128 [20] [] [.str s] w ?_
 have HH := fun w => has_any s 45 w (by omega)
 repeat' (first | refine yX ?_ | (apply And.intro <;> intro _) | apply bothI | refine retB fun β => ?_ | intro βe | refine yK (.bool (s.head? == some 45)) (fun β w hm => HH w) ?_ | exact trivial)
 all_goals first | (exfalso; omega) | skip
 refine yJ (T := Unit) (fun _ => ⟨[(0, .str s), (2, .ptr 0 0), (4, .str rest), (5, .bool m)], [(0, true, .cells 72 [.lit false, .any (.slice none 0 0), .any (.slice none 0 0)])], 1, 106⟩) [] [] [32] [] (fun I hI => ?_) (fun _ => ?_)
 ·rw [cut_tail] at hcut
  by_cases h45 : s.head? = some 45
  ·rw [if_pos h45, h45] at hcut
   simp only [Prod.mk.injEq] at hcut
   obtain ⟨h1, rfl⟩ := hcut
   have hse := head_cons h45
   rw [h1] at hse
   subst hse
   repeat' (first | refine yX ?_ | (apply And.intro <;> intro _) | apply bothI | refine retB fun β => ?_ | intro βe | ((with_reducible show ∃ _, _); first | (refine ⟨1, rfl, by simp, ?_⟩)) | exact trivial)
   all_goals first | (exfalso; simp_all; done) | skip
   all_goals exact hI _ () (by (try dsimp only); ((with_reducible show wk _ _); repeat' (first | exact trivial | exact eqSV_refl _ | refine eqI ?_ | refine eqS ?_ | apply And.intro | exact yV | fail)))
  ·rw [if_neg h45, beq_eq_false_iff_ne.2 h45] at hcut
   simp only [Prod.mk.injEq] at hcut
   obtain ⟨rfl, rfl⟩ := hcut
   repeat' (first | refine yX ?_ | (apply And.intro <;> intro _) | apply bothI | refine retB fun β => ?_ | intro βe | ((with_reducible show ∃ _, _); first | (refine ⟨1, rfl, by simp, ?_⟩)) | exact trivial)
   all_goals first | (exfalso; simp_all; done) | skip
   all_goals exact hI _ () (by (try dsimp only); ((with_reducible show wk _ _); repeat' (first | exact trivial | exact eqSV_refl _ | refine eqI ?_ | refine eqS ?_ | apply And.intro | exact yV | fail)))
 clear HH hcut
 have HS := fun w => span_any rest w (by omega)
 rw [← hW] at HS hr1 hr2 hR
 have HD := fun w => has_any (ExP.runR rest) 46 w (by omega)
 generalize ExP.runR rest = r1 at *
 obtain ⟨n, hn⟩ : ∃ n, W.length = n := ⟨_, rfl⟩
 rw [hn] at HS hr1 hr2 hR
 repeat' (first | refine yX ?_ | (apply And.intro <;> intro _) | apply bothI | refine retB fun β => ?_ | intro βe | refine yK (.int .i64 (n : Nat)) (fun β w hm => HS w) ?_ | refine yK (.bool (r1.head? == some 46)) (fun β w hm => HD w) ?_ | ((with_reducible show ∃ _, _); first | (refine ⟨n, rfl, by omega, ?_⟩; first | rw [hr1] | rw [hr2])) | exact trivial)
 refine yJ (T := {u : Unit // ExP.parX r1 ≠ true}) (fun _ => ⟨[(0, .str s), (2, .ptr 0 0), (4, .str T), (5, .bool m), (7, .str W), (8, .str P)], [(0, true, .cells 72 [.lit false, .any (.slice none 0 0), .any (.slice none 0 0)])], 1, 106⟩) [] [] [48] [] (fun I hI => ?_) (fun t => ?_)
 ·by_cases h46 : r1.head? = some 46
  ·have e1 := head_cons h46
   have eX : ExP.parX r1 = (ExP.runD r1.tail).isEmpty := by unfold ExP.parX; rw [h46]; rfl
   rw [ExP.parD, if_pos h46] at hP
   rw [ExP.parR, if_pos h46] at hT
   have hQ := ExP.run_len r1.tail
   have hQ1 := ExP.run_take' r1.tail
   have hQ2 := ExP.run_drop r1.tail
   have HQ := fun w => span_any r1.tail w (by simp only [List.length_tail]; omega)
   rw [← hP] at HQ hQ1 hQ2 hQ eX
   rw [← hT] at hQ hQ2
   generalize r1.tail = u at *
   subst e1
   clear hP hT h46
   obtain ⟨q, hq⟩ : ∃ q, P.length = q := ⟨_, rfl⟩
   rw [hq] at HQ hQ1 hQ2 hQ
   have hq0 : q ≤ 1000 := by simp only [List.length_cons] at hR; omega
   have hS1 : List.drop 1 (List.take (1 + q) (46 :: u)) = P := by rw [Nat.add_comm]; simpa using hQ1
   have hS2 : List.drop (1 + q) (46 :: u) = T := by rw [Nat.add_comm]; simpa using hQ2
   have hl1 : (46 :: u : List UInt8).length = u.length + 1 := rfl
   repeat' (first | refine yX ?_ | (apply And.intro <;> intro _) | apply bothI | refine retB fun β => ?_ | intro βe | refine yK (.int .i64 (q : Nat)) (fun β w hm => HQ w) ?_ | ((with_reducible show ∃ _, _); first | (refine ⟨1, rfl, by simp, ?_⟩) | (refine ⟨1, 1 + q, rfl, by omega, by omega, by omega, ?_⟩; rw [hS1]) | (refine ⟨1 + q, by omega, by omega, ?_⟩; rw [hS2])) | exact trivial)
   all_goals first | (exfalso; simp_all; done) | skip
   ·rename_i hP0
    obtain ⟨rfl, rfl⟩ := hX (by rw [eX, hP0]; rfl)
    refine ret fun β w' hm => ?_
    exact FrOutE0 rfl hm.below
   ·rename_i hP0
    exact hI _ ⟨(), by rw [eX]; simpa using hP0⟩ (by (try dsimp only); ((with_reducible show wk _ _); repeat' (first | exact trivial | exact eqSV_refl _ | refine eqI ?_ | refine eqS ?_ | apply And.intro | exact yV | fail)))
  ·rw [ExP.parD, if_neg h46] at hP
   rw [ExP.parR, if_neg h46] at hT
   subst hP hT
   have eX : ExP.parX T ≠ true := by unfold ExP.parX; rw [beq_eq_false_iff_ne.2 h46]; simp
   repeat' (first | refine yX ?_ | (apply And.intro <;> intro _) | apply bothI | refine retB fun β => ?_ | intro βe | exact trivial)
   all_goals first | (exfalso; simp_all; done) | skip
   all_goals exact hI _ ⟨(), eX⟩ (by (try dsimp only); ((with_reducible show wk _ _); repeat' (first | exact trivial | exact eqSV_refl _ | refine eqI ?_ | refine eqS ?_ | apply And.intro | exact yV | fail)))
 obtain ⟨_, hX0⟩ := t
 replace hXW := hXW hX0
 replace hXB := hXB hX0
 replace hG := hG hX0
 clear hX hX0
 have hTl : T.length ≤ 1000 := by
  rw [hT]; unfold ExP.parR
  split
  ·rename_i h
   have h1 := ExP.run_len r1.tail
   have h2 : r1.tail.length ≤ r1.length := by simp
   omega
  ·omega
 have hPl : P.length ≤ 1000 ∧ W.length + P.length ≤ 1000 := by
  rw [hP]; unfold ExP.parD
  split
  ·have h1 := ExP.run_len r1.tail
   have h2 : r1.tail.length ≤ r1.length := by simp
   omega
  ·simp; omega
 have hPa : P.all ExP.digC = true := by
  rw [hP]; unfold ExP.parD
  split
  ·exact ExP.runD_all _
  ·rfl
 have hWa : W.all ExP.digC = true := by rw [hW]; exact ExP.runD_all _
 clear hP hT hW hR hr1 hr2 HS HD hn
 repeat' (first | refine yX ?_ | (apply And.intro <;> intro _) | apply bothI | refine retB fun β => ?_ | intro βe | exact trivial)
 refine yJ (T := {u : Unit // ExP.expB T = true}) (fun _ => ⟨[(0, .str s), (2, .ptr 0 0), (5, .bool m), (7, .str W), (8, .str P), (9, .int .i64 (ExP.expV T))], [(0, true, .cells 72 [.lit false, .any (.slice none 0 0), .any (.slice none 0 0)])], 1, 106⟩) [] [] [] [] (fun I hI => ?_) (fun t => ?_)
 ·cases T with
  | nil =>
    repeat' (first | refine yX ?_ | (apply And.intro <;> intro _) | apply bothI | refine retB fun β => ?_ | intro βe | exact trivial)
    all_goals first | (exfalso; simp_all; done) | skip
    all_goals exact hI _ ⟨(), rfl⟩ (by (try dsimp only); ((with_reducible show wk _ _); repeat' (first | exact trivial | exact eqSV_refl _ | refine eqI ?_ | refine eqS ?_ | apply And.intro | exact yV | fail)))
  | cons c t =>
    have hB : ExP.expB (c :: t) = ((c == 101 || c == 69) && ExP.expOK (ExP.sgnR t)) := rfl
    have hV : ExP.expV (c :: t) = if ExP.sgnP t = true then -(ExP.valS (ExP.sgnR t) : Int) else (ExP.valS (ExP.sgnR t) : Int) := rfl
    have hc0 : ((c :: t : List UInt8).getD 0 0).toNat = c.toNat := rfl
    have hc8 := c.toNat_lt
    have htl : t.length ≤ 1000 := by simp only [List.length_cons] at hTl; omega
    by_cases hc : ¬(c = 101 ∨ c = 69)
    ·have hce : (c == 101 || c == 69) = false := by
      simp only [not_or] at hc
      simp [hc.1, hc.2]
     have hcn : c.toNat ≠ 101 ∧ c.toNat ≠ 69 := ⟨fun e => hc (.inl (UInt8.toNat_inj.1 e)), fun e => hc (.inr (UInt8.toNat_inj.1 e))⟩
     rw [hce, Bool.false_and] at hB
     obtain ⟨rfl, rfl⟩ := hXB hB
     repeat' (first | refine yX ?_ | (apply And.intro <;> intro _) | apply bothI | refine retB fun β => ?_ | intro βe | ((with_reducible show ∃ _, _); first | (refine ⟨0, rfl, by simp, ?_⟩) | (refine ⟨1, rfl, by simp, ?_⟩)) | exact trivial)
     all_goals first | (exfalso; omega) | (exfalso; simp_all; done) | skip
     all_goals refine ret fun β w' hm => ?_
     all_goals exact FrOutE0 rfl hm.below
    replace hc := Decidable.not_not.1 hc
    have hce : (c == 101 || c == 69) = true := by rcases hc with rfl | rfl <;> rfl
    have hcn : c.toNat = 101 ∨ c.toNat = 69 := by rcases hc with rfl | rfl <;> simp
    rw [hce, Bool.true_and] at hB
    have hsP : ExP.sgnP t = (t.head? == some 45) := rfl
    have hsR : ExP.sgnR t = if t.head? = some 45 ∨ t.head? = some 43 then t.tail else t := rfl
    by_cases h45 : t.head? = some 45
    ·obtain ⟨u, rfl⟩ : ∃ u, t = 45 :: u := ⟨_, head_cons h45⟩
     have e1 : ExP.sgnP (45 :: u) = true := rfl
     have e2 : ExP.sgnR (45 :: u) = u := rfl
     rw [e2] at hB
     have HH1 := fun w => has_any (45 :: u) 45 w (by omega)
     have HH2 := fun w => has_any (45 :: u) 43 w (by omega)
     rw [show (((45 : UInt8) :: u).head? == some 45) = true from rfl] at HH1
     rw [show (((45 : UInt8) :: u).head? == some 43) = false from rfl] at HH2
     have hul : u.length ≤ 1000 := by simp only [List.length_cons] at hTl; omega
     have HA := fun w => allDigits_any u w (by omega)
     have hK : ExP.expOK u = (!u.isEmpty && (u.all ExP.digC && decide (u.length ≤ 3))) := rfl
     by_cases hok : ExP.expOK u = true
     ·obtain ⟨o1, o2, o3, o4, o5⟩ := ExP.expOK_run hok
      have hv := ExP.val3 hok
      have HM := fun w => small_any u w o4 o5
      have hi : (!u.isEmpty && u.all ExP.digC) = true := by rw [o5]; simpa using o1
      rw [hi] at HA
      rw [hok] at hB
      have hV2 : ExP.expV (c :: 45 :: u) = -(ExP.valS u : Int) := by rw [hV]; simp only [e1, e2, if_true]; try rfl
      clear hV hK
      generalize ExP.valS u = v at *
      have hdl : (List.drop 1 (c :: 45 :: u)).length = (45 :: u).length := rfl
      have hdl2 : (List.drop 1 (List.drop 1 (c :: 45 :: u))).length = (45 :: u).length - 1 := by simp
      have hdl3 : (45 :: u).length = u.length + 1 := rfl
      have hdn : ((List.drop 1 (c :: 45 :: u)).getD 0 0).toNat = 45 := rfl
      repeat' (first | refine yX ?_ | (apply And.intro <;> intro _) | apply bothI | refine retB fun β => ?_ | intro βe | refine yK (.lit false) (fun β w hm => HH2 w) ?_ | refine yK (.lit true) (fun β w hm => HH1 w) ?_ | refine yK (.lit true) (fun β w hm => HA w) ?_ | refine yK (.int .i64 (v : Nat)) (fun β w hm => HM w) ?_ | ((with_reducible show ∃ _, _); first | (refine ⟨0, rfl, by simp, ?_⟩) | (refine ⟨1, rfl, by simp, ?_⟩)) | exact trivial)
      all_goals first | (exfalso; omega) | (exfalso; exact (by assumption : ¬¬ ((c :: 45 :: u : List UInt8) = [])) (by simp)) | skip
      all_goals exact hI _ ⟨(), hB⟩ (by (try dsimp only); rw [hV2]; ((with_reducible show wk _ _); repeat' (first | exact trivial | exact eqSV_refl _ | refine eqI ?_ | refine eqS ?_ | apply And.intro | exact yV | fail)))
     ·have hnb : ExP.expB (c :: 45 :: u) = false := by rw [hB]; exact Bool.eq_false_iff.2 hok
      obtain ⟨rfl, rfl⟩ := hXB hnb
      have hno : (!u.isEmpty && u.all ExP.digC) = true → 3 < u.length := fun h => by
       rw [Bool.and_eq_true] at h
       rw [h.1, h.2] at hK
       rw [hK] at hok
       simpa using hok
      generalize (!u.isEmpty && u.all ExP.digC) = b at *
      have hdl : (List.drop 1 (c :: 45 :: u)).length = (45 :: u).length := rfl
      have hdl2 : (List.drop 1 (List.drop 1 (c :: 45 :: u))).length = (45 :: u).length - 1 := by simp
      have hdl3 : (45 :: u).length = u.length + 1 := rfl
      have hdn : ((List.drop 1 (c :: 45 :: u)).getD 0 0).toNat = 45 := rfl
      cases b with
      | false =>
        repeat' (first | refine yX ?_ | (apply And.intro <;> intro _) | apply bothI | refine retB fun β => ?_ | intro βe | refine yK (.lit false) (fun β w hm => HH2 w) ?_ | refine yK (.lit true) (fun β w hm => HH1 w) ?_ | refine yK (.lit false) (fun β w hm => HA w) ?_ | ((with_reducible show ∃ _, _); first | (refine ⟨0, rfl, by simp, ?_⟩) | (refine ⟨1, rfl, by simp, ?_⟩)) | exact trivial)
        all_goals first | (exfalso; omega) | (exfalso; exact (by assumption : ¬¬ ((c :: 45 :: u : List UInt8) = [])) (by simp)) | skip
        all_goals refine ret fun β w' hm => ?_
        all_goals exact FrOutE0 rfl hm.below
      | true =>
        have h3 := hno rfl
        repeat' (first | refine yX ?_ | (apply And.intro <;> intro _) | apply bothI | refine retB fun β => ?_ | intro βe | refine yK (.lit false) (fun β w hm => HH2 w) ?_ | refine yK (.lit true) (fun β w hm => HH1 w) ?_ | refine yK (.lit true) (fun β w hm => HA w) ?_ | ((with_reducible show ∃ _, _); first | (refine ⟨0, rfl, by simp, ?_⟩) | (refine ⟨1, rfl, by simp, ?_⟩)) | exact trivial)
        all_goals first | (exfalso; omega) | (exfalso; exact (by assumption : ¬¬ ((c :: 45 :: u : List UInt8) = [])) (by simp)) | skip
        all_goals refine ret fun β w' hm => ?_
        all_goals exact FrOutE0 rfl hm.below
    by_cases h43 : t.head? = some 43
    ·obtain ⟨u, rfl⟩ : ∃ u, t = 43 :: u := ⟨_, head_cons h43⟩
     have e1 : ExP.sgnP (43 :: u) = false := rfl
     have e2 : ExP.sgnR (43 :: u) = u := rfl
     rw [e2] at hB
     have HH1 := fun w => has_any (43 :: u) 45 w (by omega)
     have HH2 := fun w => has_any (43 :: u) 43 w (by omega)
     rw [show (((43 : UInt8) :: u).head? == some 45) = false from rfl] at HH1
     rw [show (((43 : UInt8) :: u).head? == some 43) = true from rfl] at HH2
     have hul : u.length ≤ 1000 := by simp only [List.length_cons] at hTl; omega
     have HA := fun w => allDigits_any u w (by omega)
     have hK : ExP.expOK u = (!u.isEmpty && (u.all ExP.digC && decide (u.length ≤ 3))) := rfl
     by_cases hok : ExP.expOK u = true
     ·obtain ⟨o1, o2, o3, o4, o5⟩ := ExP.expOK_run hok
      have hv := ExP.val3 hok
      have HM := fun w => small_any u w o4 o5
      have hi : (!u.isEmpty && u.all ExP.digC) = true := by rw [o5]; simpa using o1
      rw [hi] at HA
      rw [hok] at hB
      have hV2 : ExP.expV (c :: 43 :: u) = (ExP.valS u : Int) := by rw [hV]; simp only [e1, e2, Bool.false_eq_true, if_false]; try rfl
      clear hV hK
      generalize ExP.valS u = v at *
      have hdl : (List.drop 1 (c :: 43 :: u)).length = (43 :: u).length := rfl
      have hdl2 : (List.drop 1 (List.drop 1 (c :: 43 :: u))).length = (43 :: u).length - 1 := by simp
      have hdl3 : (43 :: u).length = u.length + 1 := rfl
      have hdn : ((List.drop 1 (c :: 43 :: u)).getD 0 0).toNat = 43 := rfl
      repeat' (first | refine yX ?_ | (apply And.intro <;> intro _) | apply bothI | refine retB fun β => ?_ | intro βe | refine yK (.lit true) (fun β w hm => HH2 w) ?_ | refine yK (.lit false) (fun β w hm => HH1 w) ?_ | refine yK (.lit true) (fun β w hm => HA w) ?_ | refine yK (.int .i64 (v : Nat)) (fun β w hm => HM w) ?_ | ((with_reducible show ∃ _, _); first | (refine ⟨0, rfl, by simp, ?_⟩) | (refine ⟨1, rfl, by simp, ?_⟩)) | exact trivial)
      all_goals first | (exfalso; omega) | (exfalso; exact (by assumption : ¬¬ ((c :: 43 :: u : List UInt8) = [])) (by simp)) | skip
      all_goals exact hI _ ⟨(), hB⟩ (by (try dsimp only); rw [hV2]; ((with_reducible show wk _ _); repeat' (first | exact trivial | exact eqSV_refl _ | refine eqI ?_ | refine eqS ?_ | apply And.intro | exact yV | fail)))
     ·have hnb : ExP.expB (c :: 43 :: u) = false := by rw [hB]; exact Bool.eq_false_iff.2 hok
      obtain ⟨rfl, rfl⟩ := hXB hnb
      have hno : (!u.isEmpty && u.all ExP.digC) = true → 3 < u.length := fun h => by
       rw [Bool.and_eq_true] at h
       rw [h.1, h.2] at hK
       rw [hK] at hok
       simpa using hok
      generalize (!u.isEmpty && u.all ExP.digC) = b at *
      have hdl : (List.drop 1 (c :: 43 :: u)).length = (43 :: u).length := rfl
      have hdl2 : (List.drop 1 (List.drop 1 (c :: 43 :: u))).length = (43 :: u).length - 1 := by simp
      have hdl3 : (43 :: u).length = u.length + 1 := rfl
      have hdn : ((List.drop 1 (c :: 43 :: u)).getD 0 0).toNat = 43 := rfl
      cases b with
      | false =>
        repeat' (first | refine yX ?_ | (apply And.intro <;> intro _) | apply bothI | refine retB fun β => ?_ | intro βe | refine yK (.lit true) (fun β w hm => HH2 w) ?_ | refine yK (.lit false) (fun β w hm => HH1 w) ?_ | refine yK (.lit false) (fun β w hm => HA w) ?_ | ((with_reducible show ∃ _, _); first | (refine ⟨0, rfl, by simp, ?_⟩) | (refine ⟨1, rfl, by simp, ?_⟩)) | exact trivial)
        all_goals first | (exfalso; omega) | (exfalso; exact (by assumption : ¬¬ ((c :: 43 :: u : List UInt8) = [])) (by simp)) | skip
        all_goals refine ret fun β w' hm => ?_
        all_goals exact FrOutE0 rfl hm.below
      | true =>
        have h3 := hno rfl
        repeat' (first | refine yX ?_ | (apply And.intro <;> intro _) | apply bothI | refine retB fun β => ?_ | intro βe | refine yK (.lit true) (fun β w hm => HH2 w) ?_ | refine yK (.lit false) (fun β w hm => HH1 w) ?_ | refine yK (.lit true) (fun β w hm => HA w) ?_ | ((with_reducible show ∃ _, _); first | (refine ⟨0, rfl, by simp, ?_⟩) | (refine ⟨1, rfl, by simp, ?_⟩)) | exact trivial)
        all_goals first | (exfalso; omega) | (exfalso; exact (by assumption : ¬¬ ((c :: 43 :: u : List UInt8) = [])) (by simp)) | skip
        all_goals refine ret fun β w' hm => ?_
        all_goals exact FrOutE0 rfl hm.below
    ·have e1 : ExP.sgnP t = false := by rw [hsP]; exact beq_eq_false_iff_ne.2 h45
     have e2 : ExP.sgnR t = t := by rw [hsR, if_neg (by simp [h45, h43])]
     rw [e2] at hB
     have HH1 := fun w => has_any (t) 45 w (by omega)
     have HH2 := fun w => has_any (t) 43 w (by omega)
     rw [beq_eq_false_iff_ne.2 h45] at HH1
     rw [beq_eq_false_iff_ne.2 h43] at HH2
     have hul : t.length ≤ 1000 := by simp only [List.length_cons] at hTl; omega
     have HA := fun w => allDigits_any t w (by omega)
     have hK : ExP.expOK t = (!t.isEmpty && (t.all ExP.digC && decide (t.length ≤ 3))) := rfl
     by_cases hok : ExP.expOK t = true
     ·obtain ⟨o1, o2, o3, o4, o5⟩ := ExP.expOK_run hok
      have hv := ExP.val3 hok
      have HM := fun w => small_any t w o4 o5
      have hi : (!t.isEmpty && t.all ExP.digC) = true := by rw [o5]; simpa using o1
      rw [hi] at HA
      rw [hok] at hB
      have hV2 : ExP.expV (c :: t) = (ExP.valS t : Int) := by rw [hV]; simp only [e1, e2, Bool.false_eq_true, if_false]; try rfl
      clear hV hK
      generalize ExP.valS t = v at *
      have hdl : (List.drop 1 (c :: t)).length = (t).length := rfl
      have hdl2 : (List.drop 1 (List.drop 1 (c :: t))).length = (t).length - 1 := by simp
      have hdl3 : (t).length = t.length + 0 := rfl
      repeat' (first | refine yX ?_ | (apply And.intro <;> intro _) | apply bothI | refine retB fun β => ?_ | intro βe | refine yK (.lit false) (fun β w hm => HH2 w) ?_ | refine yK (.lit false) (fun β w hm => HH1 w) ?_ | refine yK (.lit true) (fun β w hm => HA w) ?_ | refine yK (.int .i64 (v : Nat)) (fun β w hm => HM w) ?_ | ((with_reducible show ∃ _, _); first | (refine ⟨0, rfl, by simp, ?_⟩) | (refine ⟨1, rfl, by simp, ?_⟩)) | exact trivial)
      all_goals first | (exfalso; omega) | (exfalso; exact (by assumption : ¬¬ ((c :: t : List UInt8) = [])) (by simp)) | skip
      all_goals exact hI _ ⟨(), hB⟩ (by (try dsimp only); rw [hV2]; ((with_reducible show wk _ _); repeat' (first | exact trivial | exact eqSV_refl _ | refine eqI ?_ | refine eqS ?_ | apply And.intro | exact yV | fail)))
     ·have hnb : ExP.expB (c :: t) = false := by rw [hB]; exact Bool.eq_false_iff.2 hok
      obtain ⟨rfl, rfl⟩ := hXB hnb
      have hno : (!t.isEmpty && t.all ExP.digC) = true → 3 < t.length := fun h => by
       rw [Bool.and_eq_true] at h
       rw [h.1, h.2] at hK
       rw [hK] at hok
       simpa using hok
      generalize (!t.isEmpty && t.all ExP.digC) = b at *
      have hdl : (List.drop 1 (c :: t)).length = (t).length := rfl
      have hdl2 : (List.drop 1 (List.drop 1 (c :: t))).length = (t).length - 1 := by simp
      have hdl3 : (t).length = t.length + 0 := rfl
      cases b with
      | false =>
        repeat' (first | refine yX ?_ | (apply And.intro <;> intro _) | apply bothI | refine retB fun β => ?_ | intro βe | refine yK (.lit false) (fun β w hm => HH2 w) ?_ | refine yK (.lit false) (fun β w hm => HH1 w) ?_ | refine yK (.lit false) (fun β w hm => HA w) ?_ | ((with_reducible show ∃ _, _); first | (refine ⟨0, rfl, by simp, ?_⟩) | (refine ⟨1, rfl, by simp, ?_⟩)) | exact trivial)
        all_goals first | (exfalso; omega) | (exfalso; exact (by assumption : ¬¬ ((c :: t : List UInt8) = [])) (by simp)) | skip
        all_goals refine ret fun β w' hm => ?_
        all_goals exact FrOutE0 rfl hm.below
      | true =>
        have h3 := hno rfl
        repeat' (first | refine yX ?_ | (apply And.intro <;> intro _) | apply bothI | refine retB fun β => ?_ | intro βe | refine yK (.lit false) (fun β w hm => HH2 w) ?_ | refine yK (.lit false) (fun β w hm => HH1 w) ?_ | refine yK (.lit true) (fun β w hm => HA w) ?_ | ((with_reducible show ∃ _, _); first | (refine ⟨0, rfl, by simp, ?_⟩) | (refine ⟨1, rfl, by simp, ?_⟩)) | exact trivial)
        all_goals first | (exfalso; omega) | (exfalso; exact (by assumption : ¬¬ ((c :: t : List UInt8) = [])) (by simp)) | skip
        all_goals refine ret fun β w' hm => ?_
        all_goals exact FrOutE0 rfl hm.below
 obtain ⟨_, hB⟩ := t
 have hvl := ExP.expV_le _ hB
 by_cases hW0 : W = []
 ·obtain ⟨rfl, rfl⟩ := hXW hW0
  subst hW0
  repeat' (first | refine yX ?_ | (apply And.intro <;> intro _) | apply bothI | refine retB fun β => ?_ | intro βe | exact trivial)
  all_goals first | (exfalso; exact absurd rfl (by assumption)) | skip
  all_goals refine ret fun β w' hm => ?_
  all_goals exact FrOutE0 rfl hm.below
 obtain ⟨hN, hE⟩ := hG hW0 hB
 clear hG hXW hXB
 have ha : (W ++ P).all ExP.digC = true := by rw [List.all_append, hWa, hPa]; rfl
 have HP := fun w => natOf_any (W ++ P) w (by rw [List.length_append]; omega) ha
 have hn := ExP.nd_val (b := 10) (by omega) ha
 rw [List.length_append] at hn
 obtain ⟨i0, hi, hz0, hz1, hz2⟩ := info_parts intInfo
 have hu := Tryz.underlying70
 have hsz := fun w => Tryz.sizeOf3 w
 have hzv := fun w => Tryz.zeroValue3 w
 have hn1 : ExP.nd 10 1 = 1 := ExP.nd_one (by omega)
 have hv1 : nv .i64 10 1 = [.int .i64 1] := nv_one (by omega)
 have W1 := fun (x : FrV) (w' : World) (h : BW w w') => rfrac_any x w' (Nat.lt_of_lt_of_le hw0 h.size)
 generalize ExP.expV T = v at *
 generalize ExP.valS (W ++ P) = V at *
 obtain ⟨k, hk⟩ : ∃ k, k = (v - (P.length : Int)).natAbs := ⟨_, rfl⟩
 have hk2 : k ≤ 2000 := by omega
 have hnt := ExP.nd_ten10 k
 have hnm := ExP.nd_mul (b := 10) (x := V) (y := 10 ^ k) (by omega)
 have hkp : 0 < 10 ^ k := Nat.pow_pos (by omega)
 by_cases hneg : v - (P.length : Int) < 0
 ·have hN2 : N0 = ⟨m, V, 10 ^ k⟩ := by
   rw [hN, ExP.scaleN, if_pos hneg, ← hk]
   simp
  have hkk : v - (P.length : Int) = -(k : Int) := by omega
  clear hN
  subst hN2 hE
  have SC := fun a c g (w' : World) (h0 : 0 < w'.heap.size) h => rscaled_neg m V 1 a c (some ⟨g, 0, none⟩) 1 k w' h0 (by omega) (by omega) (by omega) h
  simp only [hn1, hv1, Nat.one_mul] at SC
  repeat' (first | refine yX ?_ | (apply And.intro <;> intro _) | apply bothI | refine retB fun β => ?_ | intro βe | (refine callNat .i64 10 V hw0 (by kernel_rfl) rfl (fun β w' hm => HP w') (fun a1 c1 q1 q2 q3 => ?_)) | (refine callNum .i64 10 (10 ^ k) (fun a' c' => .agg [.bool m, .any (.slice a1 (ExP.nd 10 V) c1), .any (.slice a' (ExP.nd 10 (10 ^ k)) c')]) hw0 (by kernel_rfl) rfl (fun a' c' => ⟨trivial, rfl, rfl, trivial⟩) (fun β w' hm => by simp only [SV.dens, SV.den]; rw [hkk]; exact SC a1 c1 g1 w' (Nat.lt_of_lt_of_le hw0 hm.base_le) (by first | exact (hm.own 1 rfl).1 | exact (hm.own 2 rfl).1 | exact (hm.own 3 rfl).1)) (fun a2 c2 q4 q5 => ?_)) | refine yK (.tup [.agg [.str (ExP.writeF ⟨m, V, 10 ^ k⟩).1, .str (ExP.writeF ⟨m, V, 10 ^ k⟩).2], .int .i64 (ExP.writeE ⟨m, V, 10 ^ k⟩)]) (fun β w hm => W1 ⟨m, V, 10 ^ k, a1, c1, a2, c2⟩ w hm.below (FrIn.of (ySl hm) (ySl hm) ⟨q1, q4, q2, q5⟩) hkp (by dsimp only; omega) (by dsimp only; omega)) ?_ | (refine opx_build1 (sz := 1) rfl rfl rfl (xs := [.int .i64 1]) (fun β => rfl) rfl (by omega) (by omega) hu hsz hzv (fun g1 => ?_)) | exact trivial)
  all_goals first | (exfalso; omega) | (exfalso; simp_all; done) | skip
  all_goals refine ret fun β w' hm => ?_
  all_goals exact ⟨⟨m, V, 10 ^ k, a1, c1, a2, c2⟩, rfl, rfl, ⟨q1, q4, q2, q5⟩, Ls2 (ySl hm) (yFr hm) (ySl hm) (yFr hm), hm.below⟩
 ·have hN2 : N0 = ⟨m, V * 10 ^ k, 1⟩ := by
   rw [hN, ExP.scaleN, if_neg hneg, ← hk]
  have hkk : v - (P.length : Int) = (k : Int) := by omega
  clear hN
  subst hN2 hE
  have SC := fun a c g (w' : World) (h0 : 0 < w'.heap.size) h => rscaled_pos m V 1 a c (some ⟨g, 0, none⟩) 1 k w' h0 (by omega) (by omega) h
  simp only [hn1] at SC
  repeat' (first | refine yX ?_ | (apply And.intro <;> intro _) | apply bothI | refine retB fun β => ?_ | intro βe | (refine callNat .i64 10 V hw0 (by kernel_rfl) rfl (fun β w' hm => HP w') (fun a1 c1 q1 q2 q3 => ?_)) | (refine callNum .i64 10 (V * 10 ^ k) (fun a' c' => .agg [.bool m, .any (.slice a' (ExP.nd 10 (V * 10 ^ k)) c'), .any (.slice (some ⟨g1, 0, none⟩) 1 1)]) hw0 (by kernel_rfl) rfl (fun a' c' => ⟨trivial, rfl, rfl, trivial⟩) (fun β w' hm => by simp only [SV.dens, SV.den]; rw [hkk]; exact SC a1 c1 g1 w' (Nat.lt_of_lt_of_le hw0 hm.base_le) (ySl hm)) (fun a2 c2 q4 q5 => ?_)) | refine yK (.tup [.agg [.str (ExP.writeF ⟨m, V * 10 ^ k, 1⟩).1, .str (ExP.writeF ⟨m, V * 10 ^ k, 1⟩).2], .int .i64 (ExP.writeE ⟨m, V * 10 ^ k, 1⟩)]) (fun β w hm => by have W2 := W1 ⟨m, V * 10 ^ k, 1, a2, c2, some ⟨g1, 0, none⟩, 1⟩ w hm.below (FrIn.of (ySl hm) (by rw [hv1]; exact (by first | exact (hm.own 1 rfl).1 | exact (hm.own 2 rfl).1 | exact (hm.own 3 rfl).1)) ⟨q4, (fun h => by cases h), q5, by dsimp only; omega⟩) (by dsimp only; omega) (by dsimp only; omega) (by dsimp only; omega); simp only [FrV.val, hn1] at W2; exact W2) ?_ | (refine opx_build1 (sz := 1) rfl rfl rfl (xs := [.int .i64 1]) (fun β => rfl) rfl (by omega) (by omega) hu hsz hzv (fun g1 => ?_)) | exact trivial)
  all_goals first | (exfalso; omega) | (exfalso; simp_all; done) | skip
  all_goals refine ret fun β w' hm => ?_
  all_goals exact ⟨⟨m, V * 10 ^ k, 1, a2, c2, some ⟨g1, 0, none⟩, 1⟩, by simp only [FrV.val, hn1]; rfl, rfl, ⟨q4, (fun h => by cases h), q5, by dsimp only; omega⟩, Ls2 (ySl hm) (yFr hm) (by dsimp only; rw [hv1]; first | exact (hm.own 1 rfl).1 | exact (hm.own 2 rfl).1 | exact (hm.own 3 rfl).1) (by dsimp only; rw [hv1]; first | exact fresh_own (hm.own 1 rfl).2.1 rfl | exact fresh_own (hm.own 2 rfl).2.1 rfl | exact fresh_own (hm.own 3 rfl).2.1 rfl), hm.below⟩
section
attribute [local semireducible] ExP.writeF ExP.writeE
end
theorem readDec_long (s : List UInt8) (w : World) (h : 1000 < s.length) : Calls Tryz.prog 128 #[.string (bstr s)] w (FrOutE .i64 10 ⟨false, 0, 0⟩ 3 w) := by
 refine yE Tryz.func128 rfl Tryz.results128 Tryz.ntmps128 [] [] [.str s] w ?_
 repeat' (first | refine yX ?_ | (apply And.intro <;> intro _) | apply bothI | refine retB fun β => ?_ | intro βe | exact trivial)
 all_goals first | (exfalso; omega) | skip
 all_goals refine ret fun β w' hm => ?_
 all_goals exact FrOutE0 rfl hm.below
theorem readDec_law (s : List UInt8) (w : World) (hw0 : 0 < w.heap.size) : Calls Tryz.prog 128 #[.string (bstr s)] w (FrOutE .i64 10 (if ExP.parE s = 0 then ExP.decN s else ⟨false, 0, 0⟩) (if ExP.parE s = 0 then ExP.writeE (ExP.decN s) else ExP.parE s) w) := by
 have hE : ExP.parE s = if 1000 < s.length then 3 else if ExP.parX (ExP.runR (ExP.cutM s).1) = true ∨ ExP.decW s = [] ∨ ExP.expB (ExP.decT s) = false then 10 else 0 := rfl
 by_cases h : 1000 < s.length
 ·rw [if_pos h] at hE
  rw [hE]
  exact readDec_long s w h
 rw [if_neg h] at hE
 refine readDec_any s _ _ w hw0 (by omega) (ExP.decW s) (ExP.decP s) (ExP.decT s) (ExP.cutM s).1 (ExP.cutM s).2 rfl rfl rfl rfl (fun hx => ?_) (fun _ hx => ?_) (fun _ hx => ?_) (fun h1 h2 h3 => ?_)
 ·rw [if_pos (.inl hx)] at hE; rw [hE]; exact ⟨rfl, rfl⟩
 ·rw [if_pos (.inr (.inl hx))] at hE; rw [hE]; exact ⟨rfl, rfl⟩
 ·rw [if_pos (.inr (.inr hx))] at hE; rw [hE]; exact ⟨rfl, rfl⟩
 ·rw [if_neg (fun h => h.elim h1 (fun h => h.elim h2 (fun h => by rw [h3] at h; cases h)))] at hE
  rw [hE]
  exact ⟨rfl, rfl⟩
end Go.Proofs.YtdkhkfdenlabaaaGreatDoor
namespace Go.Proofs.YtdkhkfdenlabaaaGreatDoor
open Go.RowKit
open Sym
attribute [local irreducible] Calls Sym.AggEq ExP.nd ExP.dig ExP.upd
structure RtT where
 x : Nat
 a : Option Addr
 c : Nat
structure RtI (X : Nat) (t : RtT) : Prop where
 sq : ExP.SqI X t.x
 pos : 0 < t.x
 nd : ExP.nd 1000000000 t.x ≤ 100000
 an : t.a = none → t.c = 0
 cn : ExP.nd 1000000000 t.x ≤ t.c
end Go.Proofs.YtdkhkfdenlabaaaGreatDoor
namespace Go.Proofs.YtdkhkfdenlabaaaGreatDoor
open Go.RowKit
open Sym
attribute [local irreducible] Calls Sym.AggEq ExP.nd ExP.dig ExP.upd ExP.writeF ExP.writeE
section
variable (f : ExP.Fr) (w : World) (hw : XW w) (hw0 : 0 < w.heap.size) (h1 : f.1.length ≤ 9223372036854775807) (h2 : f.2.length ≤ 9223372036854775807)
include hw hw0 h1 h2
end
theorem nv_empty (k : IntKind) (b : Nat) : nv k b 0 = [] := by
 have := nv_len k b 0
 rw [ExP.nd_zero] at this
 exact List.length_eq_zero_iff.1 this
theorem lz_1 {a : Option Addr} {k : IntKind} {b n : Nat} {w : World} (L : List (Option Addr)) : FreshX a (nv k b n) w ∨ a ∈ Lz n a L := by
 unfold Lz
 split
 ·rename_i h; subst h; exact .inl (fun h => absurd (nv_empty k b) h)
 ·exact .inr (List.mem_cons_self ..)
theorem lz_2 {a c : Option Addr} {k : IntKind} {b n d : Nat} {w : World} (L : List (Option Addr)) : FreshX c (nv k b d) w ∨ c ∈ Lz n a (Lz d c L) := by
 refine (lz_1 (w := w) (k := k) (b := b) (n := d) L).imp id fun h => ?_
 unfold Lz at *
 split
 ·exact h
 ·exact List.mem_cons_of_mem _ h
section
variable (x : FrV) (k : Int) (w : World) (hw0 : 0 < w.heap.size) (hk : k.natAbs ≤ 500000)
include hw0 hk
theorem rscaled_fr (hx : FrIn .i64 10 x w) (hxn : ExP.nd 10 x.n ≤ 1000000) (hxd : ExP.nd 10 x.d ≤ 1000000) :
  Calls Tryz.prog 129 #[x.val 10, .int .i64 k] w (FrAny (Lz x.n x.a (Lz x.d x.b [])) .i64 10 (ExP.scaleN x.num k) w) := by
 obtain ⟨m, n, d, a, c, b, e⟩ := x
 obtain ⟨hx1, hx2, ⟨hx3, hx4, hx5, hx6⟩⟩ := hx
 dsimp only [FrV.num, FrV.val] at *
 unfold ExP.scaleN
 split
 ·rename_i h
  have h3 : k = -(k.natAbs : Int) := by omega
  generalize k.natAbs = j at *
  subst h3
  refine (rscaled_neg m n d a c b e j w hw0 (by omega) hk hxd hx2).mono ?_
  rintro _ w' ⟨a', c', rfl, g1, g2, g3, g4, g5⟩
  exact ⟨⟨m, n, d * 10 ^ j, a, c, a', c'⟩, rfl, rfl, ⟨hx3, g3, hx5, g4⟩, Ls2L (hx1.below g5) (lz_1 _) g1 (.inl g2), g5⟩
 ·rename_i h
  have h3 : k = (k.natAbs : Int) := by omega
  generalize k.natAbs = j at *
  subst h3
  refine (rscaled_pos m n d a c b e j w hw0 hk hxn hx1).mono ?_
  rintro _ w' ⟨a', c', rfl, g1, g2, g3, g4, g5⟩
  exact ⟨⟨m, n * 10 ^ j, d, a', c', b, e⟩, rfl, rfl, ⟨g3, hx4, g4, hx6⟩, Ls2L g1 (.inl g2) (hx2.below g5) (lz_2 _), g5⟩
end
end Go.Proofs.YtdkhkfdenlabaaaGreatDoor
namespace Go.Proofs.YtdkhkfdenlabaaaGreatDoor
open Go.RowKit
open Sym
attribute [local irreducible] Calls Sym.AggEq ExP.nd ExP.dig ExP.upd ExP.writeF ExP.writeE
namespace ExP
end ExP
section
variable (f : ExP.Fr) (p : Int) (w : World) (hw : XW w) (hw0 : 0 < w.heap.size) (h1 : f.1.length ≤ 9223372036854775807) (h2 : f.2.length ≤ 9223372036854775807)
include hw0 h1 h2
end
end Go.Proofs.YtdkhkfdenlabaaaGreatDoor
namespace Go.Proofs.YtdkhkfdenlabaaaGreatDoor
open Go.RowKit
open Sym
attribute [local irreducible] Calls Sym.AggEq ExP.nd ExP.dig ExP.upd
section
variable (x : FrV) (w : World) (hw0 : 0 < w.heap.size) (hx : FrIn .i64 10 x w) (hd : 0 < x.d) (hxn : ExP.nd 10 x.n ≤ 100000) (hxd : ExP.nd 10 x.d ≤ 100000)
include hw0 hx hd hxn hxd
end
section
variable (x : FrV) (p : Int) (w : World) (hw0 : 0 < w.heap.size) (hx : FrIn .i64 10 x w) (hd : 0 < x.d) (hxn : ExP.nd 10 x.n ≤ 10000) (hxd : ExP.nd 10 x.d ≤ 10000) (hp : p.natAbs ≤ 10000)
include hw0 hx hd hxn hxd hp
end
end Go.Proofs.YtdkhkfdenlabaaaGreatDoor
