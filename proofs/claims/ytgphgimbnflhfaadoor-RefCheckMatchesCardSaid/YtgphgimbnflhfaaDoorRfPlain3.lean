/- References, plainly: what the program and the reference read. -/
import Derived.Test.YtgphgimbnflhfaaDoorRfPlain2
set_option linter.unusedSimpArgs false
set_option linter.unusedVariables false
namespace Go.Proofs.YtgphgimbnflhfaaDoor.RfP
/-- a reference -/
structure Ref where
  sh : Str
  k : Int
  r : Int
  c : Int
  r2 : Int
  c2 : Int
  ar : Bool
  ac : Bool
  ar2 : Bool
  ac2 : Bool
theorem Ref.eq {a b : Ref} (h0 : a.sh = b.sh) (h1 : a.k = b.k) (h2 : a.r = b.r) (h3 : a.c = b.c) (h4 : a.r2 = b.r2) (h5 : a.c2 = b.c2) (h6 : a.ar = b.ar) (h7 : a.ac = b.ac) (h8 : a.ar2 = b.ar2) (h9 : a.ac2 = b.ac2) : a = b := by
  cases a; cases b; simp_all
def zeroR : Ref := ⟨[], 0, 0, 0, 0, 0, false, false, false, false⟩
def badR : Ref := ⟨[], 4, 0, 0, 0, 0, false, false, false, false⟩
def permP (n : Int) : Bool := decide (0 ≤ n ∧ n < 1073741824)
def printC (c : UInt8) : Bool := 32 ≤ c && c ≤ 126
def nameP (s : Str) : Int := if 200 < s.length then 3 else if s.all printC = false then 9 else 0
def meaningP (x : Ref) : Ref :=
  if x.k = 0 then { x with r2 := 0, c2 := 0, ar2 := false, ac2 := false }
  else if x.k = 2 then { x with c := 0, c2 := 0, ac := false, ac2 := false }
  else if x.k = 3 then { x with r := 0, r2 := 0, ar := false, ar2 := false }
  else if x.k = 4 then badR
  else x
def firstP (x : Ref) : Bool := x.r == 0 && !x.ar
def secondP (x : Ref) : Bool := x.c == 0 && !x.ac
def thirdP (x : Ref) : Bool := x.r2 == 0 && !x.ar2
def fourthP (x : Ref) : Bool := x.c2 == 0 && !x.ac2
/-- the form, as the reference asks for it -/
def formP (x : Ref) : Bool :=
  !((x.k == 0 && !(thirdP x && fourthP x)) || ((x.k == 2 && !(secondP x && fourthP x)) || ((x.k == 3 && !(firstP x && thirdP x)) || (x.k == 4 && !(firstP x && (secondP x && (thirdP x && (fourthP x && x.sh.isEmpty))))))))
def eqR (a b : Ref) : Bool := a.sh == b.sh && (a.k == b.k && (a.r == b.r && (a.c == b.c && (a.r2 == b.r2 && (a.c2 == b.c2 && (a.ar == b.ar && (a.ac == b.ac && (a.ar2 == b.ar2 && a.ac2 == b.ac2))))))))
theorem eqR_self (a : Ref) : eqR a a = true := by simp [eqR]
theorem eqR_meaning (x : Ref) : eqR x (meaningP x) = formP x := by
  unfold meaningP formP firstP secondP thirdP fourthP eqR
  obtain ⟨sh, k, r, c, r2, c2, ar, ac, ar2, ac2⟩ := x
  dsimp only
  by_cases h0 : k = 0
  · subst h0; rw [if_pos rfl]; simp; cases ar2 <;> cases ac2 <;> simp
  · rw [if_neg h0]
    by_cases h2 : k = 2
    · subst h2; rw [if_pos rfl]; simp; cases ac <;> cases ac2 <;> simp
    · rw [if_neg h2]
      by_cases h3 : k = 3
      · subst h3; rw [if_pos rfl]; simp; cases ar <;> cases ar2 <;> simp
      · rw [if_neg h3]
        by_cases h4 : k = 4
        · subst h4; rw [if_pos rfl]; simp [badR]; cases ar <;> cases ac <;> cases ar2 <;> cases ac2 <;> cases sh <;> simp <;> (rw [Bool.eq_iff_iff]; simp [and_assoc, and_comm, and_left_comm])
        · rw [if_neg h4]
          have e0 : (k == 0) = false := beq_eq_false_iff_ne.2 h0
          have e2 : (k == 2) = false := beq_eq_false_iff_ne.2 h2
          have e3 : (k == 3) = false := beq_eq_false_iff_ne.2 h3
          have e4 : (k == 4) = false := beq_eq_false_iff_ne.2 h4
          simp [e0, e2, e3, e4]
def checkP (x : Ref) : Int :=
  if x.k < 0 ∨ 4 < x.k then 8
  else if nameP x.sh ≠ 0 then nameP x.sh
  else if formP x = false then 4
  else if (permP x.r && (permP x.c && (permP x.r2 && permP x.c2))) = false then 2
  else if x.k ≠ 0 ∧ (x.r2 < x.r ∨ x.c2 < x.c) then 5
  else 0
/-- the number of a text of digits -/
def numD (s : Str) : Nat := s.foldl (fun n c => 10 * n + (c.toNat - 48)) 0
theorem numD_snoc (s : Str) (c : UInt8) : numD (s ++ [c]) = 10 * numD s + (c.toNat - 48) := by unfold numD; rw [List.foldl_append]; rfl
theorem numD_fold : ∀ (s : Str) (n : Nat), s.foldl (fun n c => 10 * n + (c.toNat - 48)) n = n * 10 ^ s.length + numD s
  | [], n => by simp [numD]
  | c :: r, n => by
    have h1 := numD_fold r (10 * n + (c.toNat - 48))
    have h2 := numD_fold r (10 * 0 + (c.toNat - 48))
    unfold numD at h1 h2 ⊢
    simp only [List.foldl_cons, List.length_cons, Nat.pow_succ] at h1 h2 ⊢
    rw [h1, h2, Nat.add_mul, Nat.mul_zero, Nat.zero_add, Nat.add_assoc, Nat.mul_comm 10 n, Nat.mul_assoc, Nat.mul_comm 10 (10 ^ _)]
theorem numD_cons (c : UInt8) (r : Str) : numD (c :: r) = (c.toNat - 48) * 10 ^ r.length + numD r := by
  have := numD_fold r (10 * 0 + (c.toNat - 48))
  unfold numD at this ⊢
  simp only [List.foldl_cons]
  rw [this, Nat.mul_zero, Nat.zero_add]
theorem numD_lt : ∀ s : Str, (∀ c ∈ s, isDigit c = true) → numD s < 10 ^ s.length
  | [], _ => by simp [numD]
  | c :: r, h => by
    have ih := numD_lt r (fun d hd => h d (by simp [hd]))
    have hc := h c (by simp)
    have hm : c.toNat - 48 ≤ 9 := by
      unfold isDigit at hc
      simp only [Bool.and_eq_true, decide_eq_true_eq, UInt8.le_iff_toNat_le] at hc
      simp at hc; omega
    rw [numD_cons, List.length_cons, Nat.pow_succ]
    have := Nat.mul_le_mul_right (10 ^ r.length) hm
    omega
theorem numD_pos (c : UInt8) (r : Str) (hd : isDigit c = true) (h0 : c ≠ 48) : 1 ≤ numD (c :: r) := by
  rw [numD_cons]
  have hm : 1 ≤ c.toNat - 48 := by
    unfold isDigit at hd
    simp only [Bool.and_eq_true, decide_eq_true_eq, UInt8.le_iff_toNat_le] at hd
    simp at hd
    have : c.toNat ≠ 48 := fun e => h0 (UInt8.toNat_inj.1 e)
    omega
  have := Nat.mul_le_mul_right (10 ^ r.length) hm
  have := Nat.pow_pos (n := r.length) (show 0 < 10 by omega)
  omega
/-- a corner's row and column -/
def rowOf (c : Cor) : Int := if c.D = [] then 0 else (numD c.D : Int) - 1
def valuesP (c : Cor) : Int × Int × Int :=
  if (c.L ≠ [] ∧ 1073741824 < val26 c.L) ∨ 1073741824 ≤ rowOf c then (0, 0, 2)
  else (rowOf c, (if c.L = [] then 0 else (val26 c.L : Int) - 1), 0)
def orderedP (x : Ref) : Ref :=
  if x.k = 0 then x else
  let y := if x.r2 < x.r then { x with r := x.r2, r2 := x.r, ar := x.ar2, ar2 := x.ar } else x
  if y.c2 < y.c then { y with c := y.c2, c2 := y.c, ac := y.ac2, ac2 := y.ac } else y
def cutR (c : UInt8) (s : Str) : Str × Str × Bool := match cutAt c s with
  | none => (s, [], false)
  | some p => (p.1, p.2, true)
def refTxt : Str := [35, 82, 69, 70, 33]
def doneP (x : Ref) : Ref × Int := if checkP (orderedP x) = 0 then (orderedP x, 0) else (zeroR, checkP (orderedP x))
/-- the corners of a text, and whether the form is right -/
def synP (ok : Bool) (two : Bool) (a b : Cor × Bool) : Bool :=
  ok && (a.2 && (b.2 && ((a.1.L.isEmpty == b.1.L.isEmpty) && ((a.1.D.isEmpty == b.1.D.isEmpty) && (two || (!a.1.L.isEmpty && !a.1.D.isEmpty))))))
def readP (t : Str) (two : Bool) (a b : Cor) : Ref × Int :=
  if (valuesP a).2.2 ≠ 0 then (zeroR, (valuesP a).2.2)
  else if two = true then
    if (valuesP b).2.2 ≠ 0 then (zeroR, (valuesP b).2.2)
    else doneP ⟨t, (if a.L = [] then 2 else if a.D = [] then 3 else 1), (valuesP a).1, (valuesP a).2.1, (valuesP b).1, (valuesP b).2.1, a.ar, a.ac, b.ar, b.ac⟩
  else doneP ⟨t, 0, (valuesP a).1, (valuesP a).2.1, 0, 0, a.ar, a.ac, false, false⟩
def parseP (s : Str) : Ref × Int :=
  if 500 < s.length then (zeroR, 3) else if s = refTxt then (badR, 0) else
  let t := titleP s
  let u := cutR 58 t.2.1
  let a := place u.1
  let b := bif u.2.2 then place u.2.1 else (a.1, true)
  if synP t.2.2 u.2.2 a b = true then readP t.1 u.2.2 a.1 b.1 else (zeroR, 10)
end Go.Proofs.YtgphgimbnflhfaaDoor.RfP
