/- References, plainly: letters of columns, their numbers, and what a text of a reference says. References, plainly: how a text of a reference is divided, by the program and by the reference. References, plainly: what the program and the reference read. References, plainly: the reference's reading is the program's. References, plainly: copied and moved references. References, plainly: their text. -/
import Derived.Laws.BitsLemmas
import Derived.Lib.Replace
import Derived.Lib.SplitLaws
import Derived.Lib.ItoaNum
set_option linter.unusedSimpArgs false
set_option linter.unusedVariables false
namespace Go.Proofs.YtmodjglbjempkaaGreatDoor.RfP
abbrev Str := List UInt8
def isLetter (c : UInt8) : Bool := (65 ≤ c && c ≤ 90) || (97 ≤ c && c ≤ 122)
def isDigit (c : UInt8) : Bool := 48 ≤ c && c ≤ 57
/-- the letters of the number n = column + 1: the program's loop, from the right -/
def ltr : Nat → Nat → Str
  | 0, _ => []
  | f + 1, n => if n = 0 then [] else ltr f ((n - 1) / 26) ++ [UInt8.ofNat (65 + (n - 1) % 26)]
/-- the sum of the first n powers of 26 -/
def S26 : Nat → Nat
  | 0 => 0
  | n + 1 => 26 * S26 n + 1
/-- n digits of the base 26 as letters: the reference's loop -/
def dig26 : Nat → Nat → Str
  | 0, _ => []
  | n + 1, c => dig26 n (c / 26) ++ [UInt8.ofNat (65 + c % 26)]
theorem ltr_dig : ∀ (n f c : Nat), n ≤ f → c < 26 ^ n → ltr f (c + S26 n) = dig26 n c
  | 0, f, c, _, hc => by
    have h0 : c = 0 := by simpa using hc
    subst h0
    cases f with
    | zero => rfl
    | succ f => simp [ltr, S26, dig26]
  | n + 1, f, c, hf, hc => by
    obtain ⟨f, rfl⟩ : ∃ g, f = g + 1 := ⟨f - 1, by omega⟩
    have e1 : (c + S26 (n + 1) - 1) / 26 = c / 26 + S26 n := by simp only [S26]; omega
    have e2 : (c + S26 (n + 1) - 1) % 26 = c % 26 := by simp only [S26]; omega
    simp only [ltr, dig26]
    rw [if_neg (by simp only [S26]; omega), e1, e2, ltr_dig n f (c / 26) (by omega) (by rw [Nat.pow_succ] at hc; omega)]
theorem dig26_len : ∀ (n c : Nat), (dig26 n c).length = n
  | 0, _ => rfl
  | n + 1, c => by simp only [dig26, List.length_append, dig26_len n]; rfl
theorem dig26_cons : ∀ (k c : Nat), dig26 (k + 1) c = UInt8.ofNat (65 + c / 26 ^ k % 26) :: dig26 k c
  | 0, c => by simp [dig26]
  | k + 1, c => by
    have ih := dig26_cons k (c / 26)
    rw [show dig26 (k + 1 + 1) c = dig26 (k + 1) (c / 26) ++ [UInt8.ofNat (65 + c % 26)] from rfl, ih, Nat.div_div_eq_div_mul, Nat.pow_succ, Nat.mul_comm 26]
    rfl
theorem ltr_step (f n : Nat) (h : n ≠ 0) : ltr (f + 1) n = ltr f ((n - 1) / 26) ++ [UInt8.ofNat (65 + (n - 1) % 26)] := by simp only [ltr]; rw [if_neg h]
theorem ltr_zero (f : Nat) : ltr f 0 = [] := by cases f <;> simp [ltr]
theorem ltr_len : ∀ (f n : Nat), (ltr f n).length ≤ f
  | 0, _ => by simp [ltr]
  | f + 1, n => by
    by_cases h : n = 0
    · subst h; simp [ltr]
    · rw [ltr_step f n h, List.length_append]; have := ltr_len f ((n - 1) / 26); simp; omega
/-- the number of a text of letters -/
def val26 (s : Str) : Nat := s.foldl (fun n c => 26 * n + c.toNat % 32) 0
theorem val26_snoc (s : Str) (c : UInt8) : val26 (s ++ [c]) = 26 * val26 s + c.toNat % 32 := by unfold val26; rw [List.foldl_append]; rfl
theorem val26_fold : ∀ (s : Str) (n : Nat), s.foldl (fun n c => 26 * n + c.toNat % 32) n = n * 26 ^ s.length + val26 s
  | [], n => by simp [val26]
  | c :: r, n => by
    have h1 := val26_fold r (26 * n + c.toNat % 32)
    have h2 := val26_fold r (26 * 0 + c.toNat % 32)
    unfold val26 at h1 h2 ⊢
    simp only [List.foldl_cons, List.length_cons, Nat.pow_succ] at h1 h2 ⊢
    rw [h1, h2, Nat.add_mul, Nat.mul_zero, Nat.zero_add, Nat.add_assoc, Nat.mul_comm 26 n, Nat.mul_assoc, Nat.mul_comm 26 (26 ^ _)]
theorem val26_cons (c : UInt8) (r : Str) : val26 (c :: r) = c.toNat % 32 * 26 ^ r.length + val26 r := by
  have := val26_fold r (26 * 0 + c.toNat % 32)
  unfold val26 at this ⊢
  simp only [List.foldl_cons]
  rw [this, Nat.mul_zero, Nat.zero_add]
theorem val26_lt : ∀ s : Str, (∀ c ∈ s, isLetter c = true) → val26 s < 2 * 26 ^ s.length
  | [], _ => by simp [val26]
  | c :: r, h => by
    have ih := val26_lt r (fun d hd => h d (by simp [hd]))
    have hc := h c (by simp)
    have hm : c.toNat % 32 ≤ 26 := by
      unfold isLetter at hc
      simp only [Bool.or_eq_true, Bool.and_eq_true, decide_eq_true_eq, UInt8.le_iff_toNat_le] at hc
      simp at hc; omega
    rw [val26_cons, List.length_cons, Nat.pow_succ]
    have := Nat.mul_le_mul_right (26 ^ r.length) hm
    omega
def lv (c : UInt8) : Nat := c.toNat % 32 - 1
/-- what the reference adds first: the letters as digits -/
def lowS : Str → Nat
  | [] => 0
  | c :: r => 26 ^ r.length * lv c + lowS r
/-- what it adds then -/
def sumP : Nat → Nat
  | 0 => 0
  | n + 1 => sumP n + 26 ^ (n + 1)
theorem S26_succ : ∀ n, S26 (n + 1) = 26 ^ n + S26 n
  | 0 => rfl
  | n + 1 => by
    have ih := S26_succ n
    have h1 : S26 (n + 1 + 1) = 26 * S26 (n + 1) + 1 := rfl
    have h2 : S26 (n + 1) = 26 * S26 n + 1 := rfl
    rw [Nat.pow_succ]; omega
theorem sumP_eq : ∀ n, sumP n + 1 = S26 (n + 1)
  | 0 => rfl
  | n + 1 => by
    rw [S26_succ, ← sumP_eq n]; simp only [sumP]; omega
theorem low_val : ∀ s : Str, (∀ c ∈ s, isLetter c = true) → lowS s + S26 s.length = val26 s
  | [], _ => rfl
  | c :: r, h => by
    have ih := low_val r (fun d hd => h d (by simp [hd]))
    have hc := h c (by simp)
    have hm : 1 ≤ c.toNat % 32 := by
      unfold isLetter at hc
      simp only [Bool.or_eq_true, Bool.and_eq_true, decide_eq_true_eq, UInt8.le_iff_toNat_le] at hc
      simp at hc; omega
    rw [val26_cons, List.length_cons, S26_succ, ← ih]
    simp only [lowS, lv]
    have e : c.toNat % 32 = (c.toNat % 32 - 1) + 1 := by omega
    generalize c.toNat % 32 - 1 = q at *
    rw [e, Nat.add_mul, Nat.one_mul, Nat.mul_comm q]; omega
theorem val26_ref (s : Str) (h0 : s ≠ []) (h : ∀ c ∈ s, isLetter c = true) : val26 s = lowS s + sumP (s.length - 1) + 1 := by
  have h1 : 0 < s.length := List.length_pos_iff.2 h0
  have h2 := sumP_eq (s.length - 1)
  rw [show s.length - 1 + 1 = s.length from by omega] at h2
  have := low_val s h
  omega
/-- the program's Column: the number and the error (0: none; the numbers of the errors are parameters) -/
def allL (s : Str) : Bool := s.all isLetter
/-- a plain name -/
def plainC (c : UInt8) : Bool := isLetter c || isDigit c || c == 95
def plain (s : Str) : Bool := match s with
  | [] => false
  | c :: r => isLetter c && r.all plainC
end Go.Proofs.YtmodjglbjempkaaGreatDoor.RfP
namespace Go.Proofs.YtmodjglbjempkaaGreatDoor.RfP
/-- one corner, as the program reads it -/
structure Cor where
  L : Str
  D : Str
  ac : Bool
  ar : Bool
def isDol (c : UInt8) : Bool := c == 36
def cutC (c : UInt8) (s : Str) : Str × Bool := match s with
  | [] => ([], false)
  | d :: r => if d = c then (r, true) else (d :: r, false)
def placeC (s : Str) : Cor × Str :=
  let p := cutC 36 s
  let L := p.1.takeWhile isLetter
  let s2 := p.1.dropWhile isLetter
  let q := bif L.isEmpty then (s2, false) else cutC 36 s2
  (⟨L, q.1.takeWhile isDigit, bif L.isEmpty then false else p.2, bif L.isEmpty then p.2 else q.2⟩, q.1.dropWhile isDigit)
def goodC (c : Cor) : Bool := !decide (7 < c.L.length) && (!decide (10 < c.D.length) && (!(c.D.head? == some 48) && (!(c.D.isEmpty) || (!(c.L.isEmpty) && !c.ar))))
def place (s : Str) : Cor × Bool := ((placeC s).1, (placeC s).2.isEmpty && goodC (placeC s).1)
/-- one side, as the reference reads it: how many dollars, letters, how many dollars, digits, the rest -/
structure Sid where
  n : Nat
  L : Str
  m : Nat
  D : Str
  rest : Str
def sideC (s : Str) : Sid :=
  let s1 := s.dropWhile isDol
  let L := s1.takeWhile isLetter
  let s2 := s1.dropWhile isLetter
  let s3 := bif L.isEmpty then s2 else s2.dropWhile isDol
  ⟨(s.takeWhile isDol).length, L, bif L.isEmpty then 0 else (s2.takeWhile isDol).length, s3.takeWhile isDigit, s3.dropWhile isDigit⟩
/-- whether the side has the form -/
def sideOk (x : Sid) : Bool :=
  !(decide (1 < x.m) || (x.m == 1 && x.D.isEmpty)) && !(decide (1 < x.n) || (!x.rest.isEmpty || ((x.L.isEmpty && x.D.isEmpty) || (decide (7 < x.L.length) || (decide (10 < x.D.length) || (!x.D.isEmpty && x.D.head? == some 48))))))
theorem tw_nil (p : UInt8 → Bool) (c : UInt8) (r : Str) (h : p c = false) : (c :: r).takeWhile p = [] := by simp [List.takeWhile_cons, h]
theorem dw_nil (p : UInt8 → Bool) (c : UInt8) (r : Str) (h : p c = false) : (c :: r).dropWhile p = c :: r := by simp [List.dropWhile_cons, h]
theorem dol_letter : isLetter 36 = false := by decide
theorem dol_digit : isDigit 36 = false := by decide
theorem letter_dol (c : UInt8) (h : isLetter c = true) : isDol c = false := by
  unfold isDol
  by_cases e : c = 36
  · subst e; simp [dol_letter] at h
  · simpa using e
/-- behind one dollar cut off, or none: what is left begins with no dollar, or there were two -/
theorem cut_dol (s : Str) : (cutC 36 s).1 = s.dropWhile isDol ∧ (cutC 36 s).2 = ((s.takeWhile isDol).length == 1) ∧ (s.takeWhile isDol).length ≤ 1 ∨ 1 < (s.takeWhile isDol).length ∧ ∃ r, (cutC 36 s).1 = 36 :: r := by
  match s with
  | [] => left; simp [cutC]
  | d :: r =>
    by_cases h : d = 36
    · subst h
      match r with
      | [] => left; simp [cutC, isDol]
      | e :: r =>
        by_cases h2 : e = 36
        · subst h2; right
          refine ⟨by simp [List.takeWhile_cons, isDol], r, by simp [cutC]⟩
        · left
          have h3 : isDol e = false := by simpa [isDol] using h2
          simp [cutC, List.takeWhile_cons, List.dropWhile_cons, h3, show isDol 36 = true from rfl]
    · left
      have h3 : isDol d = false := by simpa [isDol] using h
      simp [cutC, List.takeWhile_cons, List.dropWhile_cons, h3, h]
theorem place_side (s : Str) : (place s).2 = sideOk (sideC s) ∧ ((place s).2 = true → (place s).1.L = (sideC s).L ∧ (place s).1.D = (sideC s).D ∧ (place s).1.ac = (!(sideC s).L.isEmpty && (sideC s).n == 1) ∧ (place s).1.ar = bif (sideC s).L.isEmpty then (sideC s).n == 1 else (sideC s).m == 1) := by
  rcases cut_dol s with ⟨h1, h2, h3⟩ | ⟨h1, r, h2⟩
  · unfold place placeC sideC
    dsimp only
    rw [h1, h2]
    generalize (s.takeWhile isDol).length = n at *
    generalize s.dropWhile isDol = s1 at *
    generalize s1.takeWhile isLetter = L at *
    generalize s1.dropWhile isLetter = s2 at *
    rcases Bool.eq_false_or_eq_true L.isEmpty with hL | hL
    · obtain rfl : L = [] := by simpa using hL
      simp only [List.isEmpty_nil, cond_true]
      generalize s2.takeWhile isDigit = D at *
      generalize s2.dropWhile isDigit = t at *
      refine ⟨?_, fun _ => by simp⟩
      unfold sideOk goodC
      have hn : n = 0 ∨ n = 1 := by omega
      rcases hn with rfl | rfl <;> cases t <;> cases D <;> simp <;> first | rfl | (rw [Bool.eq_iff_iff]; simp) | skip
    · simp only [hL, cond_false]
      rcases cut_dol s2 with ⟨k1, k2, k3⟩ | ⟨k1, r, k2⟩
      · rw [k1, k2]
        generalize (s2.takeWhile isDol).length = m at *
        generalize s2.dropWhile isDol = s3 at *
        generalize s3.takeWhile isDigit = D at *
        generalize s3.dropWhile isDigit = t at *
        have hLe := hL
        refine ⟨?_, fun _ => by simp⟩
        unfold sideOk goodC
        dsimp only
        rw [hLe]
        have hn : n = 0 ∨ n = 1 := by omega
        have hm : m = 0 ∨ m = 1 := by omega
        rcases hn with rfl | rfl <;> rcases hm with rfl | rfl <;> cases t <;> cases D <;> simp <;> first | rfl | (rw [Bool.eq_iff_iff]; simp) | skip
      · rw [k2]
        have f1 : ((36 :: r).dropWhile isDigit).isEmpty = false := by rw [dw_nil _ _ _ dol_digit]; rfl
        refine ⟨?_, fun h => ?_⟩
        · rw [f1, Bool.false_and]
          unfold sideOk
          dsimp only
          have : decide (1 < (s2.takeWhile isDol).length) = true := by simpa using k1
          rw [this]; rfl
        · rw [f1, Bool.false_and] at h; cases h
  · unfold place placeC sideC
    dsimp only
    rw [h2, tw_nil _ _ _ dol_letter, dw_nil _ _ _ dol_letter]
    simp only [List.isEmpty_nil, cond_true]
    have f1 : ((36 :: r).dropWhile isDigit).isEmpty = false := by rw [dw_nil _ _ _ dol_digit]; rfl
    refine ⟨?_, fun h => ?_⟩
    · rw [f1, Bool.false_and]
      unfold sideOk
      dsimp only
      have : decide (1 < (s.takeWhile isDol).length) = true := by simpa using h1
      rw [this]
      simp
    · rw [f1, Bool.false_and] at h; cases h
/-- the name of a sheet between apostrophes: what stands in it, and what follows the closing one -/
def quoted : Str → Str → Option (Str × Str)
  | _, [] => none
  | b, [c] => if c = 39 then some (b, []) else none
  | b, c :: d :: r => if c = 39 then (if d = 39 then quoted (b ++ [39]) r else some (b, d :: r)) else quoted (b ++ [c]) (d :: r)
/-- the first byte c parts the text -/
def cutAt (c : UInt8) : Str → Option (Str × Str)
  | [] => none
  | d :: r => if d = c then some ([], r) else (cutAt c r).map fun p => (d :: p.1, p.2)
def titleP (s : Str) : Str × Str × Bool :=
  if s.head? = some 39 then
    match quoted [] s.tail with
    | none => ([], [], false)
    | some (b, r) => (b, (cutC 33 r).1, (cutC 33 r).2 && !b.isEmpty)
  else match cutAt 33 s with
    | none => ([], s, true)
    | some (a, b) => (a, b, plain a)
end Go.Proofs.YtmodjglbjempkaaGreatDoor.RfP
namespace Go.Proofs.YtmodjglbjempkaaGreatDoor.RfP
/-- a reference -/
structure Ref where
  sh : Str
  k : Int
  r : Int
  c : Int
  r2 : Int
  c2 : Int
  ar : Bool
  ac : Bool
  ar2 : Bool
  ac2 : Bool
theorem Ref.eq {a b : Ref} (h0 : a.sh = b.sh) (h1 : a.k = b.k) (h2 : a.r = b.r) (h3 : a.c = b.c) (h4 : a.r2 = b.r2) (h5 : a.c2 = b.c2) (h6 : a.ar = b.ar) (h7 : a.ac = b.ac) (h8 : a.ar2 = b.ar2) (h9 : a.ac2 = b.ac2) : a = b := by
  cases a; cases b; simp_all
def zeroR : Ref := ⟨[], 0, 0, 0, 0, 0, false, false, false, false⟩
def badR : Ref := ⟨[], 4, 0, 0, 0, 0, false, false, false, false⟩
def permP (n : Int) : Bool := decide (0 ≤ n ∧ n < 1073741824)
def printC (c : UInt8) : Bool := 32 ≤ c && c ≤ 126
def nameP (s : Str) : Int := if 200 < s.length then 3 else if s.all printC = false then 9 else 0
def meaningP (x : Ref) : Ref :=
  if x.k = 0 then { x with r2 := 0, c2 := 0, ar2 := false, ac2 := false }
  else if x.k = 2 then { x with c := 0, c2 := 0, ac := false, ac2 := false }
  else if x.k = 3 then { x with r := 0, r2 := 0, ar := false, ar2 := false }
  else if x.k = 4 then badR
  else x
def firstP (x : Ref) : Bool := x.r == 0 && !x.ar
def secondP (x : Ref) : Bool := x.c == 0 && !x.ac
def thirdP (x : Ref) : Bool := x.r2 == 0 && !x.ar2
def fourthP (x : Ref) : Bool := x.c2 == 0 && !x.ac2
/-- the form, as the reference asks for it -/
def formP (x : Ref) : Bool :=
  !((x.k == 0 && !(thirdP x && fourthP x)) || ((x.k == 2 && !(secondP x && fourthP x)) || ((x.k == 3 && !(firstP x && thirdP x)) || (x.k == 4 && !(firstP x && (secondP x && (thirdP x && (fourthP x && x.sh.isEmpty))))))))
def eqR (a b : Ref) : Bool := a.sh == b.sh && (a.k == b.k && (a.r == b.r && (a.c == b.c && (a.r2 == b.r2 && (a.c2 == b.c2 && (a.ar == b.ar && (a.ac == b.ac && (a.ar2 == b.ar2 && a.ac2 == b.ac2))))))))
theorem eqR_self (a : Ref) : eqR a a = true := by simp [eqR]
theorem eqR_meaning (x : Ref) : eqR x (meaningP x) = formP x := by
  unfold meaningP formP firstP secondP thirdP fourthP eqR
  obtain ⟨sh, k, r, c, r2, c2, ar, ac, ar2, ac2⟩ := x
  dsimp only
  by_cases h0 : k = 0
  · subst h0; rw [if_pos rfl]; simp; cases ar2 <;> cases ac2 <;> simp
  · rw [if_neg h0]
    by_cases h2 : k = 2
    · subst h2; rw [if_pos rfl]; simp; cases ac <;> cases ac2 <;> simp
    · rw [if_neg h2]
      by_cases h3 : k = 3
      · subst h3; rw [if_pos rfl]; simp; cases ar <;> cases ar2 <;> simp
      · rw [if_neg h3]
        by_cases h4 : k = 4
        · subst h4; rw [if_pos rfl]; simp [badR]; cases ar <;> cases ac <;> cases ar2 <;> cases ac2 <;> cases sh <;> simp <;> (rw [Bool.eq_iff_iff]; simp [and_assoc, and_comm, and_left_comm])
        · rw [if_neg h4]
          have e0 : (k == 0) = false := beq_eq_false_iff_ne.2 h0
          have e2 : (k == 2) = false := beq_eq_false_iff_ne.2 h2
          have e3 : (k == 3) = false := beq_eq_false_iff_ne.2 h3
          have e4 : (k == 4) = false := beq_eq_false_iff_ne.2 h4
          simp [e0, e2, e3, e4]
def checkP (x : Ref) : Int :=
  if x.k < 0 ∨ 4 < x.k then 8
  else if nameP x.sh ≠ 0 then nameP x.sh
  else if formP x = false then 4
  else if (permP x.r && (permP x.c && (permP x.r2 && permP x.c2))) = false then 2
  else if x.k ≠ 0 ∧ (x.r2 < x.r ∨ x.c2 < x.c) then 5
  else 0
/-- the number of a text of digits -/
def numD (s : Str) : Nat := s.foldl (fun n c => 10 * n + (c.toNat - 48)) 0
theorem numD_snoc (s : Str) (c : UInt8) : numD (s ++ [c]) = 10 * numD s + (c.toNat - 48) := by unfold numD; rw [List.foldl_append]; rfl
theorem numD_fold : ∀ (s : Str) (n : Nat), s.foldl (fun n c => 10 * n + (c.toNat - 48)) n = n * 10 ^ s.length + numD s
  | [], n => by simp [numD]
  | c :: r, n => by
    have h1 := numD_fold r (10 * n + (c.toNat - 48))
    have h2 := numD_fold r (10 * 0 + (c.toNat - 48))
    unfold numD at h1 h2 ⊢
    simp only [List.foldl_cons, List.length_cons, Nat.pow_succ] at h1 h2 ⊢
    rw [h1, h2, Nat.add_mul, Nat.mul_zero, Nat.zero_add, Nat.add_assoc, Nat.mul_comm 10 n, Nat.mul_assoc, Nat.mul_comm 10 (10 ^ _)]
theorem numD_cons (c : UInt8) (r : Str) : numD (c :: r) = (c.toNat - 48) * 10 ^ r.length + numD r := by
  have := numD_fold r (10 * 0 + (c.toNat - 48))
  unfold numD at this ⊢
  simp only [List.foldl_cons]
  rw [this, Nat.mul_zero, Nat.zero_add]
theorem numD_lt : ∀ s : Str, (∀ c ∈ s, isDigit c = true) → numD s < 10 ^ s.length
  | [], _ => by simp [numD]
  | c :: r, h => by
    have ih := numD_lt r (fun d hd => h d (by simp [hd]))
    have hc := h c (by simp)
    have hm : c.toNat - 48 ≤ 9 := by
      unfold isDigit at hc
      simp only [Bool.and_eq_true, decide_eq_true_eq, UInt8.le_iff_toNat_le] at hc
      simp at hc; omega
    rw [numD_cons, List.length_cons, Nat.pow_succ]
    have := Nat.mul_le_mul_right (10 ^ r.length) hm
    omega
theorem numD_pos (c : UInt8) (r : Str) (hd : isDigit c = true) (h0 : c ≠ 48) : 1 ≤ numD (c :: r) := by
  rw [numD_cons]
  have hm : 1 ≤ c.toNat - 48 := by
    unfold isDigit at hd
    simp only [Bool.and_eq_true, decide_eq_true_eq, UInt8.le_iff_toNat_le] at hd
    simp at hd
    have : c.toNat ≠ 48 := fun e => h0 (UInt8.toNat_inj.1 e)
    omega
  have := Nat.mul_le_mul_right (10 ^ r.length) hm
  have := Nat.pow_pos (n := r.length) (show 0 < 10 by omega)
  omega
/-- a corner's row and column -/
def rowOf (c : Cor) : Int := if c.D = [] then 0 else (numD c.D : Int) - 1
def valuesP (c : Cor) : Int × Int × Int :=
  if (c.L ≠ [] ∧ 1073741824 < val26 c.L) ∨ 1073741824 ≤ rowOf c then (0, 0, 2)
  else (rowOf c, (if c.L = [] then 0 else (val26 c.L : Int) - 1), 0)
def orderedP (x : Ref) : Ref :=
  if x.k = 0 then x else
  let y := if x.r2 < x.r then { x with r := x.r2, r2 := x.r, ar := x.ar2, ar2 := x.ar } else x
  if y.c2 < y.c then { y with c := y.c2, c2 := y.c, ac := y.ac2, ac2 := y.ac } else y
def cutR (c : UInt8) (s : Str) : Str × Str × Bool := match cutAt c s with
  | none => (s, [], false)
  | some p => (p.1, p.2, true)
def refTxt : Str := [35, 82, 69, 70, 33]
def doneP (x : Ref) : Ref × Int := if checkP (orderedP x) = 0 then (orderedP x, 0) else (zeroR, checkP (orderedP x))
/-- the corners of a text, and whether the form is right -/
def synP (ok : Bool) (two : Bool) (a b : Cor × Bool) : Bool :=
  ok && (a.2 && (b.2 && ((a.1.L.isEmpty == b.1.L.isEmpty) && ((a.1.D.isEmpty == b.1.D.isEmpty) && (two || (!a.1.L.isEmpty && !a.1.D.isEmpty))))))
def readP (t : Str) (two : Bool) (a b : Cor) : Ref × Int :=
  if (valuesP a).2.2 ≠ 0 then (zeroR, (valuesP a).2.2)
  else if two = true then
    if (valuesP b).2.2 ≠ 0 then (zeroR, (valuesP b).2.2)
    else doneP ⟨t, (if a.L = [] then 2 else if a.D = [] then 3 else 1), (valuesP a).1, (valuesP a).2.1, (valuesP b).1, (valuesP b).2.1, a.ar, a.ac, b.ar, b.ac⟩
  else doneP ⟨t, 0, (valuesP a).1, (valuesP a).2.1, 0, 0, a.ar, a.ac, false, false⟩
def parseP (s : Str) : Ref × Int :=
  if 500 < s.length then (zeroR, 3) else if s = refTxt then (badR, 0) else
  let t := titleP s
  let u := cutR 58 t.2.1
  let a := place u.1
  let b := bif u.2.2 then place u.2.1 else (a.1, true)
  if synP t.2.2 u.2.2 a b = true then readP t.1 u.2.2 a.1 b.1 else (zeroR, 10)
end Go.Proofs.YtmodjglbjempkaaGreatDoor.RfP
namespace Go.Proofs.YtmodjglbjempkaaGreatDoor.RfP
/-- a corner that place accepts -/
structure Good (c : Cor) : Prop where
  letters : allL c.L = true
  digits : ∀ d ∈ c.D, isDigit d = true
  l7 : c.L.length ≤ 7
  d10 : c.D.length ≤ 10
theorem cutAt_len (c : UInt8) : ∀ s p, cutAt c s = some p → p.1.length + p.2.length + 1 = s.length
  | [], _, h => by cases h
  | d :: r, p, h => by
    unfold cutAt at h
    by_cases e : d = c
    · rw [if_pos e] at h; injection h with h; subst h; simp
    · rw [if_neg e] at h
      cases e2 : cutAt c r with
      | none => rw [e2] at h; cases h
      | some q =>
        rw [e2] at h; injection h with h; subst h
        have := cutAt_len c r q e2
        simp; omega
theorem cutR_len (c : UInt8) (s : Str) : (cutR c s).1.length ≤ s.length ∧ (cutR c s).2.1.length ≤ s.length := by
  unfold cutR
  cases e : cutAt c s with
  | none => simp
  | some p => have := cutAt_len c s p e; dsimp only; omega
theorem quoted_len : ∀ (n : Nat) (b s : Str) (p : Str × Str), s.length ≤ n → quoted b s = some p → p.2.length ≤ s.length
  | _, b, [], p, _, h => by simp [quoted] at h
  | _, b, [c], p, _, h => by
    simp only [quoted] at h
    by_cases e : c = 39
    · rw [if_pos e] at h; injection h with h; subst h; simp
    · rw [if_neg e] at h; cases h
  | n + 1, b, c :: d :: r, p, hn, h => by
    simp only [quoted] at h
    by_cases e : c = 39
    · rw [if_pos e] at h
      by_cases e2 : d = 39
      · rw [if_pos e2] at h
        have := quoted_len n _ r p (by simp at hn; omega) h
        simp; omega
      · rw [if_neg e2] at h; injection h with h; subst h; simp
    · rw [if_neg e] at h
      have := quoted_len n _ (d :: r) p (by simp at hn ⊢; omega) h
      simp at this ⊢; omega
  | 0, b, c :: d :: r, p, hn, _ => by simp at hn
theorem cutC_len (c : UInt8) (s : Str) : (cutC c s).1.length ≤ s.length := by
  cases s with
  | nil => simp [cutC]
  | cons d r => unfold cutC; dsimp only; split <;> simp
theorem titleP_len (s : Str) : (titleP s).2.1.length ≤ s.length := by
  unfold titleP
  split
  · cases e : quoted [] s.tail with
    | none => simp
    | some p =>
      have h1 := quoted_len _ [] s.tail p (Nat.le_refl _) e
      have h2 := cutC_len 33 p.2
      simp at h1 ⊢
      omega
  · cases e : cutAt 33 s with
    | none => simp
    | some p => have := cutAt_len 33 s p e; dsimp only; omega
theorem tw_all (p : UInt8 → Bool) : ∀ s : Str, ∀ c ∈ s.takeWhile p, p c = true
  | [], c, h => by simp at h
  | d :: r, c, h => by
    cases e : p d with
    | false => rw [List.takeWhile_cons, e] at h; simp at h
    | true =>
      rw [List.takeWhile_cons, e] at h
      simp at h
      rcases h with h | h
      · rw [h]; exact e
      · exact tw_all p r c h
theorem place_good (s : Str) (h : (place s).2 = true) : Good (place s).1 := by
  unfold place at h ⊢
  dsimp only at h ⊢
  have hg : goodC (placeC s).1 = true := by
    cases e : goodC (placeC s).1 with
    | true => rfl
    | false => rw [e] at h; simp at h
  unfold goodC at hg
  simp only [Bool.and_eq_true, Bool.not_eq_true', decide_eq_false_iff_not] at hg
  refine ⟨?_, ?_, by omega, by omega⟩
  · unfold allL; rw [List.all_eq_true]; exact tw_all _ _
  · exact tw_all _ _
theorem place_parts (s : Str) (h : (place s).2 = true) : ((place s).1.D.head? == some 48) = false ∧ ((place s).1.L ≠ [] ∨ (place s).1.D ≠ []) := by
  unfold place at h ⊢
  dsimp only at h ⊢
  have hg : goodC (placeC s).1 = true := by
    cases e : goodC (placeC s).1 with
    | true => rfl
    | false => rw [e] at h; simp at h
  unfold goodC at hg
  simp only [Bool.and_eq_true, Bool.not_eq_true', decide_eq_false_iff_not, Bool.or_eq_true] at hg
  obtain ⟨_, _, h3, h4⟩ := hg
  refine ⟨h3, ?_⟩
  rcases h4 with h4 | h4
  · right; simpa using h4
  · left; simpa using h4.1
/-- one side, as the reference reads it -/
structure Side where
  row : Int
  col : Int
  ar : Bool
  ac : Bool
def sRow (D : Str) : Int := if D = [] then -1 else (numD D : Int) - 1
def sCol (L : Str) : Int := if L = [] then -1 else (val26 L : Int) - 1
def bad1 (x : Sid) : Bool := decide (1 < x.m) || (x.m == 1 && x.D.isEmpty)
def bad2 (x : Sid) : Bool := decide (1 < x.n) || (!x.rest.isEmpty || ((x.L.isEmpty && x.D.isEmpty) || (decide (7 < x.L.length) || (decide (10 < x.D.length) || (!x.D.isEmpty && x.D.head? == some 48)))))
def sideV (x : Sid) : Side × Int :=
  if bad1 x = true then (⟨-1, -1, false, !x.L.isEmpty && x.n == 1⟩, 0)
  else if bad2 x = true then (⟨-1, -1, bif x.L.isEmpty then x.n == 1 else x.m == 1, !x.L.isEmpty && x.n == 1⟩, 0)
  else (⟨sRow x.D, sCol x.L, bif x.L.isEmpty then x.n == 1 else x.m == 1, !x.L.isEmpty && x.n == 1⟩, if 1073741824 ≤ sRow x.D ∨ 1073741824 ≤ sCol x.L then 2 else 1)
def sideP (s : Str) : Side × Int := sideV (sideC s)
theorem sideOk_eq (x : Sid) : sideOk x = (!bad1 x && !bad2 x) := rfl
theorem side_no (s : Str) (h : (place s).2 = false) : (sideP s).2 = 0 := by
  have e := (place_side s).1
  rw [h, sideOk_eq] at e
  unfold sideP sideV
  cases h1 : bad1 (sideC s) with
  | true => simp
  | false =>
    rw [h1] at e
    have h2 : bad2 (sideC s) = true := by simpa using e
    simp [h2]
theorem side_yes (s : Str) (h : (place s).2 = true) : sideP s = (⟨sRow (place s).1.D, sCol (place s).1.L, (place s).1.ar, (place s).1.ac⟩, if 1073741824 ≤ sRow (place s).1.D ∨ 1073741824 ≤ sCol (place s).1.L then 2 else 1) := by
  obtain ⟨e, e2⟩ := place_side s
  obtain ⟨a1, a2, a3, a4⟩ := e2 h
  rw [h, sideOk_eq] at e
  have h1 : bad1 (sideC s) = false := by cases q : bad1 (sideC s) <;> simp [q] at e ⊢
  have h2 : bad2 (sideC s) = false := by cases q : bad2 (sideC s) <;> simp [q] at e ⊢
  unfold sideP sideV
  rw [h1, h2, a1, a2, a3, a4]
  simp
theorem sRow_pos (D : Str) (h : D ≠ []) (hd : ∀ d ∈ D, isDigit d = true) (h0 : (D.head? == some 48) = false) : 0 ≤ sRow D ∧ sRow D = (numD D : Int) - 1 := by
  have : 1 ≤ numD D := by
    cases D with
    | nil => exact absurd rfl h
    | cons c r => exact numD_pos c r (hd c (by simp)) (by intro e; subst e; simp at h0)
  unfold sRow; rw [if_neg h]; omega
theorem sCol_pos (L : Str) (h : L ≠ []) (hl : ∀ c ∈ L, isLetter c = true) : 0 ≤ sCol L ∧ sCol L = (val26 L : Int) - 1 := by
  have := val26_ref L h hl
  unfold sCol; rw [if_neg h]; omega
/-- a corner's values and the side's -/
structure Vals (c : Cor) : Prop where
  row0 : decide (sRow c.D < 0) = c.D.isEmpty
  col0 : decide (sCol c.L < 0) = c.L.isEmpty
  big : (1073741824 ≤ sRow c.D ∨ 1073741824 ≤ sCol c.L) → valuesP c = (0, 0, 2)
  fit : ¬ (1073741824 ≤ sRow c.D ∨ 1073741824 ≤ sCol c.L) → valuesP c = (max (sRow c.D) 0, max (sCol c.L) 0, 0)
theorem vals_of (c : Cor) (hg : Good c) (h0 : (c.D.head? == some 48) = false) : Vals c := by
  have hl : ∀ d ∈ c.L, isLetter d = true := by have := hg.letters; unfold allL at this; rwa [List.all_eq_true] at this
  have hd := hg.digits
  obtain ⟨L, D, ac, ar⟩ := c
  dsimp only at *
  by_cases hL : L = [] <;> by_cases hD : D = []
  · subst hL; subst hD
    exact ⟨by simp [sRow], by simp [sCol], by simp [sRow, sCol], fun _ => by simp [sRow, sCol, valuesP, rowOf]; rfl⟩
  · obtain ⟨p1, p2⟩ := sRow_pos D hD hd h0
    subst hL
    have e1 : D.isEmpty = false := by simpa using hD
    refine ⟨by rw [e1]; simp; omega, by simp [sCol], fun h => ?_, fun h => ?_⟩
    · unfold valuesP rowOf; dsimp only; rw [if_neg hD, if_pos (by right; simp [sCol] at h; omega)]
    · unfold valuesP rowOf; dsimp only; rw [if_neg hD, if_neg (by simp; simp [sCol] at h; omega)]; simp [sCol]; omega
  · obtain ⟨p1, p2⟩ := sCol_pos L hL hl
    subst hD
    have e1 : L.isEmpty = false := by simpa using hL
    refine ⟨by simp [sRow], by rw [e1]; simp; omega, fun h => ?_, fun h => ?_⟩
    · unfold valuesP rowOf; dsimp only; rw [if_pos (by left; exact ⟨hL, by simp [sRow] at h; omega⟩)]
    · unfold valuesP rowOf; dsimp only; rw [if_neg (by simp [hL]; simp [sRow] at h; omega), if_neg hL]; simp [sRow]; omega
  · obtain ⟨p1, p2⟩ := sCol_pos L hL hl
    obtain ⟨q1, q2⟩ := sRow_pos D hD hd h0
    have e1 : L.isEmpty = false := by simpa using hL
    have e2 : D.isEmpty = false := by simpa using hD
    refine ⟨by rw [e2]; simp; omega, by rw [e1]; simp; omega, fun h => ?_, fun h => ?_⟩
    · dsimp only at h
      unfold valuesP rowOf; dsimp only
      rw [if_neg hD, if_pos]
      rcases h with h | h
      · right; omega
      · left; exact ⟨hL, by omega⟩
    · dsimp only at h
      unfold valuesP rowOf; dsimp only
      rw [if_neg hD, if_neg (by rintro (⟨_, h'⟩ | h') <;> exact h (by omega)), if_neg hL, ← p2, ← q2, Int.max_eq_left p1, Int.max_eq_left q1]
def synR (two : Bool) (a b : Side × Int) : Bool := !(a.2 == 0 || (b.2 == 0 || ((decide (a.1.row < 0) != decide (b.1.row < 0)) || ((decide (a.1.col < 0) != decide (b.1.col < 0)) || (!two && (decide (a.1.row < 0) || decide (a.1.col < 0)))))))
def kindR (two : Bool) (a : Side) : Int := if two = false then 0 else if a.row < 0 then 3 else if a.col < 0 then 2 else 1
def readR (t : Str) (two : Bool) (a b : Side × Int) : Ref × Int :=
  if synR two a b = false then (zeroR, 10)
  else if a.2 = 2 ∨ b.2 = 2 then (zeroR, 2)
  else doneP ⟨t, kindR two a.1, max a.1.row 0, max a.1.col 0, (bif two then max b.1.row 0 else 0), (bif two then max b.1.col 0 else 0), a.1.ar, a.1.ac, two && b.1.ar, two && b.1.ac⟩
theorem read_same (t : Str) (ok two : Bool) (x y : Str) :
    (if synP ok two (place x) (bif two then place y else ((place x).1, true)) = true then readP t two (place x).1 (bif two then place y else ((place x).1, true)).1 else (zeroR, 10)) = if ok = false then (zeroR, 10) else readR t two (sideP x) (bif two then sideP y else ((sideP x).1, 1)) := by
  cases ok with
  | false => simp [synP]
  | true =>
    simp only [if_neg (show ¬ (true = false) by simp)]
    cases hx : (place x).2 with
    | false =>
      have e := side_no x hx
      unfold readR synR synP
      simp [hx, e]
    | true =>
      have e := side_yes x hx
      have hv := vals_of _ (place_good x hx) (place_parts x hx).1
      have hne := (place_parts x hx).2
      generalize place x = px at *
      obtain ⟨c, okx⟩ := px
      dsimp only at *
      subst hx
      rw [e]
      obtain ⟨v1, v2, v3, v4⟩ := hv
      cases two with
      | false =>
        unfold readR synR synP readP kindR
        dsimp only [cond_false]
        simp only [v1, v2]
        by_cases hb : 1073741824 ≤ sRow c.D ∨ 1073741824 ≤ sCol c.L
        · simp only [if_pos hb, v3 hb]
          cases c.L.isEmpty <;> cases c.D.isEmpty <;> simp
        · simp only [if_neg hb, v4 hb]
          cases c.L.isEmpty <;> cases c.D.isEmpty <;> simp
      | true =>
        dsimp only [cond_true]
        cases hy : (place y).2 with
        | false =>
          have f := side_no y hy
          unfold readR synR synP
          simp [hy, f]
        | true =>
          have f := side_yes y hy
          have hw := vals_of _ (place_good y hy) (place_parts y hy).1
          generalize place y = py at *
          obtain ⟨d, oky⟩ := py
          dsimp only at *
          subst hy
          rw [f]
          obtain ⟨w1, w2, w3, w4⟩ := hw
          have k1 : c.L.isEmpty = true ∧ c.D.isEmpty = true → False := by
            intro ⟨h1, h2⟩
            simp at h1 h2
            rcases hne with h | h
            · exact h h1
            · exact h h2
          have hk : kindR true ⟨sRow c.D, sCol c.L, c.ar, c.ac⟩ = if c.L = [] then 2 else if c.D = [] then 3 else 1 := by
            unfold kindR
            dsimp only
            have r1 : (sRow c.D < 0) = (c.D = []) := propext ⟨fun h => by have := v1; rw [decide_eq_true h] at this; simpa using this.symm, fun h => by have := v1; rw [h] at this ⊢; simpa using this⟩
            have r2 : (sCol c.L < 0) = (c.L = []) := propext ⟨fun h => by have := v2; rw [decide_eq_true h] at this; simpa using this.symm, fun h => by have := v2; rw [h] at this ⊢; simpa using this⟩
            simp only [r1, r2]
            by_cases h1 : c.L = [] <;> by_cases h2 : c.D = [] <;> simp [h1, h2]
            exact k1 ⟨by simp [h1], by simp [h2]⟩
          unfold readR synR synP readP
          rw [hk]
          dsimp only [cond_true]
          simp only [v1, v2, w1, w2]
          clear hk k1 hne e f
          by_cases hb : 1073741824 ≤ sRow c.D ∨ 1073741824 ≤ sCol c.L <;> by_cases hd : 1073741824 ≤ sRow d.D ∨ 1073741824 ≤ sCol d.L
          · simp only [if_pos hb, if_pos hd, v3 hb]
            cases c.L.isEmpty <;> cases c.D.isEmpty <;> cases d.L.isEmpty <;> cases d.D.isEmpty <;> simp
          · simp only [if_pos hb, if_neg hd, v3 hb]
            cases c.L.isEmpty <;> cases c.D.isEmpty <;> cases d.L.isEmpty <;> cases d.D.isEmpty <;> simp
          · simp only [if_neg hb, if_pos hd, v4 hb, w3 hd]
            cases c.L.isEmpty <;> cases c.D.isEmpty <;> cases d.L.isEmpty <;> cases d.D.isEmpty <;> simp
          · simp only [if_neg hb, if_neg hd, v4 hb, w4 hd]
            cases c.L.isEmpty <;> cases c.D.isEmpty <;> cases d.L.isEmpty <;> cases d.D.isEmpty <;> simp
/-- the reference's error of a reference -/
def errP (x : Ref) : Int :=
  if x.k < 0 ∨ 4 < x.k then 8
  else if nameP x.sh ≠ 0 then nameP x.sh
  else if formP x = false then 4
  else if (permP x.r && (permP x.c && (permP x.r2 && permP x.c2))) = false then 2
  else if (1 ≤ x.k ∧ x.k ≤ 3) ∧ (x.r2 < x.r ∨ x.c2 < x.c) then 5
  else 0
theorem err_check (x : Ref) : errP x = checkP x := by
  unfold errP checkP
  by_cases h0 : x.k < 0 ∨ 4 < x.k
  · rw [if_pos h0, if_pos h0]
  rw [if_neg h0, if_neg h0]
  by_cases h1 : nameP x.sh ≠ 0
  · rw [if_pos h1, if_pos h1]
  rw [if_neg h1, if_neg h1]
  by_cases h2 : formP x = false
  · rw [if_pos h2, if_pos h2]
  rw [if_neg h2, if_neg h2]
  by_cases h3 : (permP x.r && (permP x.c && (permP x.r2 && permP x.c2))) = false
  · rw [if_pos h3, if_pos h3]
  rw [if_neg h3, if_neg h3]
  by_cases h4 : x.k = 4
  · have hf : formP x = true := by simpa using h2
    unfold formP firstP secondP thirdP fourthP at hf
    simp [h4] at hf
    rw [if_neg (by omega), if_neg (by omega)]
  · have e : (x.k ≠ 0 ∧ (x.r2 < x.r ∨ x.c2 < x.c)) = ((1 ≤ x.k ∧ x.k ≤ 3) ∧ (x.r2 < x.r ∨ x.c2 < x.c)) := by
      apply propext; constructor
      · rintro ⟨a, b⟩; exact ⟨by omega, b⟩
      · rintro ⟨a, b⟩; exact ⟨by omega, b⟩
    simp only [e]
end Go.Proofs.YtmodjglbjempkaaGreatDoor.RfP
namespace Go.Proofs.YtmodjglbjempkaaGreatDoor.RfP
def sortedP (x : Ref) : Ref :=
  let y := if x.r2 < x.r then { x with r := x.r2, r2 := x.r, ar := x.ar2, ar2 := x.ar } else x
  if y.c2 < y.c then { y with c := y.c2, c2 := y.c, ac := y.ac2, ac2 := y.ac } else y
theorem sorted_ordered (x : Ref) (h : x.k ≠ 0) : sortedP x = orderedP x := by unfold orderedP; rw [if_neg h]; rfl
def farP (n : Int) : Bool := decide (n < -1073741824 ∨ 1073741824 < n)
def insideP (x : Ref) : Bool := permP x.r && (permP x.c && (permP x.r2 && permP x.c2))
def fittingP (x : Ref) : Ref := if insideP (meaningP x) = true then meaningP x else badR
def mv (n by' : Int) (abs : Bool) : Int := if abs = true then n else n + by'
def addP (x : Ref) (d r : Int) : Ref := { x with r := mv x.r d x.ar, r2 := mv x.r2 d x.ar2, c := mv x.c r x.ac, c2 := mv x.c2 r x.ac2 }
/-- the program's copy -/
def copyP (x : Ref) (d r : Int) : Ref := fittingP (orderedP (meaningP (addP x d r)))
/-- the reference's copy, before it is sorted -/
def addR (x : Ref) (d r : Int) : Ref :=
  { x with
    r := if x.k = 3 ∨ x.k = 4 then x.r else mv x.r d x.ar
    r2 := if x.k = 3 ∨ x.k = 4 ∨ x.k = 0 then x.r2 else mv x.r2 d x.ar2
    c := if x.k = 2 ∨ x.k = 4 then x.c else mv x.c r x.ac
    c2 := if x.k = 2 ∨ x.k = 4 ∨ x.k = 0 then x.c2 else mv x.c2 r x.ac2 }
def copyR (x : Ref) (d r : Int) : Ref :=
  let s := if 1 ≤ x.k ∧ x.k ≤ 3 then sortedP (addR x d r) else addR x d r
  if insideP s = true then s else badR
theorem check_ok (x : Ref) (h : checkP x = 0) : (0 ≤ x.k ∧ x.k ≤ 4) ∧ formP x = true ∧ insideP x = true ∧ (x.k ≠ 0 → x.r ≤ x.r2 ∧ x.c ≤ x.c2) := by
  unfold checkP at h
  by_cases h0 : x.k < 0 ∨ 4 < x.k
  · rw [if_pos h0] at h; omega
  rw [if_neg h0] at h
  by_cases h1 : nameP x.sh ≠ 0
  · rw [if_pos h1] at h; exact absurd h h1
  rw [if_neg h1] at h
  by_cases h2 : formP x = false
  · rw [if_pos h2] at h; omega
  rw [if_neg h2] at h
  by_cases h3 : (permP x.r && (permP x.c && (permP x.r2 && permP x.c2))) = false
  · rw [if_pos h3] at h; omega
  rw [if_neg h3] at h
  by_cases h4 : x.k ≠ 0 ∧ (x.r2 < x.r ∨ x.c2 < x.c)
  · rw [if_pos h4] at h; omega
  exact ⟨by omega, by simpa using h2, by unfold insideP; simpa using h3, fun hk => by
    have : ¬ (x.r2 < x.r ∨ x.c2 < x.c) := fun h => h4 ⟨hk, h⟩
    omega⟩
theorem perm0 : permP 0 = true := by decide
theorem ord_k (y : Ref) : (orderedP y).k = y.k := by
  unfold orderedP
  by_cases h0 : y.k = 0
  · rw [if_pos h0]
  · rw [if_neg h0]
    by_cases h1 : y.r2 < y.r <;> by_cases h2 : y.c2 < y.c <;> simp [h1, h2]
theorem mean_k (y : Ref) : (meaningP y).k = y.k := by
  unfold meaningP
  by_cases h0 : y.k = 0
  · rw [if_pos h0]
  rw [if_neg h0]
  by_cases h2 : y.k = 2
  · rw [if_pos h2]
  rw [if_neg h2]
  by_cases h3 : y.k = 3
  · rw [if_pos h3]
  rw [if_neg h3]
  by_cases h4 : y.k = 4
  · rw [if_pos h4, h4]; rfl
  rw [if_neg h4]
theorem mean_mean (y : Ref) : meaningP (meaningP y) = meaningP y := by
  obtain ⟨sh, k, r, c, r2, c2, ar, ac, ar2, ac2⟩ := y
  by_cases h0 : k = 0
  · subst h0; rfl
  by_cases h2 : k = 2
  · subst h2; rfl
  by_cases h3 : k = 3
  · subst h3; rfl
  by_cases h4 : k = 4
  · subst h4; rfl
  simp [meaningP, h0, h2, h3, h4]
theorem mean_ord (y : Ref) (h : meaningP y = y) : meaningP (orderedP y) = orderedP y := by
  obtain ⟨sh, k, r, c, r2, c2, ar, ac, ar2, ac2⟩ := y
  by_cases h0 : k = 0
  · subst h0; exact h
  by_cases h2 : k = 2
  · subst h2
    simp [meaningP] at h
    obtain ⟨rfl, rfl, rfl, rfl⟩ := h
    by_cases h1 : r2 < r <;> simp [orderedP, meaningP, h1]
  by_cases h3 : k = 3
  · subst h3
    simp [meaningP] at h
    obtain ⟨rfl, rfl, rfl, rfl⟩ := h
    by_cases h1 : c2 < c <;> simp [orderedP, meaningP, h1]
  by_cases h4 : k = 4
  · subst h4
    simp [meaningP, badR] at h
    obtain ⟨rfl, rfl, rfl, rfl, rfl, rfl, rfl, rfl, rfl⟩ := h
    rfl
  have e := ord_k ⟨sh, k, r, c, r2, c2, ar, ac, ar2, ac2⟩
  generalize orderedP ⟨sh, k, r, c, r2, c2, ar, ac, ar2, ac2⟩ = z at *
  dsimp only at e
  unfold meaningP; rw [e, if_neg h0, if_neg h2, if_neg h3, if_neg h4]
theorem ord_bad : orderedP badR = badR := rfl
theorem add_same (x : Ref) (d r : Int) (hk : 0 ≤ x.k ∧ x.k ≤ 4) (hf : formP x = true) : meaningP (addP x d r) = addR x d r := by
  obtain ⟨sh, k, a, c, a2, c2, ar, ac, ar2, ac2⟩ := x
  dsimp only at *
  unfold formP firstP secondP thirdP fourthP at hf
  have hk5 : k = 0 ∨ k = 1 ∨ k = 2 ∨ k = 3 ∨ k = 4 := by omega
  clear hk
  rcases hk5 with rfl | rfl | rfl | rfl | rfl
  · simp at hf
    obtain ⟨⟨rfl, rfl⟩, rfl, rfl⟩ := hf
    simp [addP, addR, meaningP]
  · simp [addP, addR, meaningP]
  · simp at hf
    obtain ⟨⟨rfl, rfl⟩, rfl, rfl⟩ := hf
    simp [addP, addR, meaningP]
  · simp at hf
    obtain ⟨⟨rfl, rfl⟩, rfl, rfl⟩ := hf
    simp [addP, addR, meaningP]
  · simp at hf
    obtain ⟨⟨rfl, rfl⟩, ⟨rfl, rfl⟩, ⟨rfl, rfl⟩, ⟨rfl, rfl⟩, rfl⟩ := hf
    simp [addP, addR, meaningP, badR]
theorem copy_same (x : Ref) (d r : Int) (h : checkP x = 0) : copyP x d r = copyR x d r := by
  obtain ⟨hk, hf, _, _⟩ := check_ok x h
  have e1 := add_same x d r hk hf
  have e2 : meaningP (orderedP (meaningP (addP x d r))) = orderedP (meaningP (addP x d r)) := mean_ord _ (mean_mean _)
  unfold copyP fittingP
  rw [e2, e1]
  have e3 : orderedP (addR x d r) = if 1 ≤ x.k ∧ x.k ≤ 3 then sortedP (addR x d r) else addR x d r := by
    by_cases h1 : 1 ≤ x.k ∧ x.k ≤ 3
    · rw [if_pos h1, sorted_ordered]
      show x.k ≠ 0
      omega
    · rw [if_neg h1]
      by_cases h0 : x.k = 0
      · unfold orderedP; rw [if_pos (show (addR x d r).k = 0 from h0)]
      · have h4 : x.k = 4 := by omega
        rw [← e1]
        have : meaningP (addP x d r) = badR := by
          unfold meaningP; rw [if_neg (by show x.k ≠ 0; omega), if_neg (by show x.k ≠ 2; omega), if_neg (by show x.k ≠ 3; omega), if_pos (by show x.k = 4; omega)]
        rw [this]; rfl
  rw [e3]; rfl
structure Rect where
  r : Int
  c : Int
  h : Int
  w : Int
def blockP (b : Rect) (d r : Int) : Int :=
  if b.r < 0 ∨ 1073741824 ≤ b.r ∨ b.c < 0 ∨ 1073741824 ≤ b.c ∨ b.h < 1 ∨ 1073741824 < b.h ∨ b.w < 1 ∨ 1073741824 < b.w ∨ farP d = true ∨ farP r = true then 2 else 0
/-- the program's move -/
def moveP (x : Ref) (b : Rect) (d r : Int) : Ref :=
  if x.k ≠ 0 ∧ x.k ≠ 1 then x
  else if x.r < b.r ∨ b.r + b.h ≤ max x.r x.r2 ∨ x.c < b.c ∨ b.c + b.w ≤ max x.c x.c2 then x
  else fittingP { x with r := x.r + d, r2 := x.r2 + d, c := x.c + r, c2 := x.c2 + r }
/-- the reference's move -/
def moveR (x : Ref) (b : Rect) (d r : Int) : Ref :=
  if 1 < x.k then x
  else
    let s := if x.k = 0 then { x with r2 := x.r, c2 := x.c } else x
    if s.r < b.r ∨ s.c < b.c ∨ b.r + b.h - 1 < s.r2 ∨ b.c + b.w - 1 < s.c2 then x
    else
      let t : Ref := { s with r := s.r + d, r2 := s.r2 + d, c := s.c + r, c2 := s.c2 + r }
      if insideP t = true then (if x.k = 0 then { t with r2 := 0, c2 := 0 } else t) else badR
theorem move_same (x : Ref) (b : Rect) (d r : Int) (h : checkP x = 0) : moveP x b d r = moveR x b d r := by
  obtain ⟨hk, hf, hin, hord⟩ := check_ok x h
  clear h
  obtain ⟨sh, k, a, c, a2, c2, ar, ac, ar2, ac2⟩ := x
  obtain ⟨br, bc, bh, bw⟩ := b
  dsimp only at *
  unfold insideP permP at hin
  simp at hin
  by_cases h0 : k = 0
  · subst h0
    unfold formP firstP secondP thirdP fourthP at hf
    simp at hf
    obtain ⟨⟨rfl, rfl⟩, rfl, rfl⟩ := hf
    unfold moveP moveR
    dsimp only
    rw [if_neg (by simp), if_neg (show ¬ ((1 : Int) < 0) by omega)]
    simp only [if_true]
    by_cases hq : a < br ∨ c < bc ∨ br + bh - 1 < a ∨ bc + bw - 1 < c
    · rw [if_pos (by omega), if_pos hq]
    · rw [if_neg (by omega), if_neg hq]
      unfold fittingP meaningP insideP
      dsimp only
      simp only [if_true, perm0]
      cases permP (a + d) <;> cases permP (c + r) <;> simp
  · by_cases h1 : k = 1
    · subst h1
      obtain ⟨o1, o2⟩ := hord (by omega)
      unfold moveP moveR
      dsimp only
      rw [if_neg (by simp), if_neg (show ¬ ((1 : Int) < 1) by omega)]
      simp only [show ((1 : Int) = 0) = False by simp, if_false]
      by_cases hq : a < br ∨ c < bc ∨ br + bh - 1 < a2 ∨ bc + bw - 1 < c2
      · rw [if_pos (by omega), if_pos hq]
      · rw [if_neg (by omega), if_neg hq]
        unfold fittingP meaningP
        simp
    · unfold moveP moveR
      dsimp only
      rw [if_pos (by omega), if_pos (by omega)]
end Go.Proofs.YtmodjglbjempkaaGreatDoor.RfP
namespace Go.Proofs.YtmodjglbjempkaaGreatDoor.RfP
open Go
theorem replace_one (c : UInt8) (new : List UInt8) (hne : ¬ new = [c]) : ∀ s : List UInt8, Lib.replaceAll s [c] new = s.flatMap (fun b => if b = c then new else [b]) := by
  have h0 : ([c] == new) = false := by
    cases h : ([c] == new) with
    | false => rfl
    | true => exact absurd (eq_of_beq h).symm hne
  have key : ∀ s : List UInt8, Lib.replaceK [c] new (Lib.count s [c]) s = s.flatMap (fun b => if b = c then new else [b]) := by
    intro s
    induction s with
    | nil =>
      rw [Lib.count_miss (by simp [Lib.index])]
      rfl
    | cons b l ih =>
      by_cases hb : b = c
      · subst hb
        have hix : Lib.index (b :: l) [b] = ((0 : Nat) : Int) := by rw [Lib.index]; simp [List.isPrefixOf]
        rw [Lib.count_cons_eq, Nat.add_comm, Lib.replaceK_hit _ _ _ _ 0 hix]
        simp [ih]
      · rw [Lib.count_cons_ne b c l hb, List.flatMap_cons, if_neg hb, ← ih]
        cases hn : Lib.count l [c] with
        | zero => simp [Lib.replaceK]
        | succ k =>
          obtain ⟨j, hj⟩ := Lib.index_of_count (s := l) (old := [c]) (by omega)
          have hp : ([c] : List UInt8).isPrefixOf (b :: l) = false := by simp [List.isPrefixOf, Ne.symm hb]
          have hix : Lib.index (b :: l) [c] = ((j + 1 : Nat) : Int) := by
            rw [Lib.index, hp, hj]
            have : ((j : Int) == -1) = false := by simp
            simp [this]
          rw [Lib.replaceK_hit _ _ _ _ _ hix, Lib.replaceK_hit _ _ _ _ _ hj]
          simp
  intro s
  unfold Lib.replaceAll Lib.replace Lib.replaceNum
  rw [h0, if_neg (by simp), if_pos (.inl (by omega))]
  exact key s
def dbl (s : Str) : Str := s.flatMap (fun b => if b = 39 then [39, 39] else [b])
def sheetT (s : Str) : Str := if s = [] then [] else if plain s = true then s ++ [33] else [39] ++ dbl s ++ [39, 33]
def mkT (abs : Bool) (s : Str) : Str := if abs = true then [36] ++ s else s
def colT (n : Int) (abs : Bool) : Str := mkT abs (ltr 8 (n.toNat + 1))
def rowT (n : Int) (abs : Bool) : Str := mkT abs (Lib.decDigits (n.toNat + 1))
/-- the text of a reference -/
def textP (x : Ref) : Str :=
  if x.k = 0 then sheetT x.sh ++ colT x.c x.ac ++ rowT x.r x.ar
  else if x.k = 1 then sheetT x.sh ++ colT x.c x.ac ++ rowT x.r x.ar ++ [58] ++ colT x.c2 x.ac2 ++ rowT x.r2 x.ar2
  else if x.k = 2 then sheetT x.sh ++ rowT x.r x.ar ++ [58] ++ rowT x.r2 x.ar2
  else if x.k = 3 then sheetT x.sh ++ colT x.c x.ac ++ [58] ++ colT x.c2 x.ac2
  else refTxt
theorem dbl_len (s : Str) : (dbl s).length ≤ 2 * s.length := by
  unfold dbl
  induction s with
  | nil => simp
  | cons b l ih => rw [List.flatMap_cons, List.length_append, List.length_cons]; split <;> (first | (rw [List.length_cons, List.length_cons, List.length_nil]; omega) | (rw [List.length_cons, List.length_nil]; omega))
theorem dig_len (n : Nat) : n < 10 ^ 11 → (Lib.decDigits n).length ≤ 11 := by
  have : ∀ (m n : Nat), n < 10 ^ (m + 1) → (Lib.decDigits n).length ≤ m + 1 := by
    intro m
    induction m with
    | zero => intro n h; rw [Lib.decDigits, dif_pos (by omega)]; simp
    | succ m ih =>
      intro n h
      rw [Lib.decDigits]
      by_cases h1 : n < 10
      · rw [dif_pos h1]; simp
      · rw [dif_neg h1, List.length_append]
        have := ih (n / 10) (by rw [Nat.pow_succ] at h; omega)
        simp; omega
  exact this 10 n
end Go.Proofs.YtmodjglbjempkaaGreatDoor.RfP
