/- References, plainly: how a text of a reference is divided, by the program and by the reference. -/
import Derived.Test.YtgphgimbnflhfaaDoorRfPlain
set_option linter.unusedSimpArgs false
set_option linter.unusedVariables false
namespace Go.Proofs.YtgphgimbnflhfaaDoor.RfP
/-- one corner, as the program reads it -/
structure Cor where
  L : Str
  D : Str
  ac : Bool
  ar : Bool
def isDol (c : UInt8) : Bool := c == 36
def cutC (c : UInt8) (s : Str) : Str × Bool := match s with
  | [] => ([], false)
  | d :: r => if d = c then (r, true) else (d :: r, false)
def placeC (s : Str) : Cor × Str :=
  let p := cutC 36 s
  let L := p.1.takeWhile isLetter
  let s2 := p.1.dropWhile isLetter
  let q := bif L.isEmpty then (s2, false) else cutC 36 s2
  (⟨L, q.1.takeWhile isDigit, bif L.isEmpty then false else p.2, bif L.isEmpty then p.2 else q.2⟩, q.1.dropWhile isDigit)
def goodC (c : Cor) : Bool := !decide (7 < c.L.length) && (!decide (10 < c.D.length) && (!(c.D.head? == some 48) && (!(c.D.isEmpty) || (!(c.L.isEmpty) && !c.ar))))
def place (s : Str) : Cor × Bool := ((placeC s).1, (placeC s).2.isEmpty && goodC (placeC s).1)
/-- one side, as the reference reads it: how many dollars, letters, how many dollars, digits, the rest -/
structure Sid where
  n : Nat
  L : Str
  m : Nat
  D : Str
  rest : Str
def sideC (s : Str) : Sid :=
  let s1 := s.dropWhile isDol
  let L := s1.takeWhile isLetter
  let s2 := s1.dropWhile isLetter
  let s3 := bif L.isEmpty then s2 else s2.dropWhile isDol
  ⟨(s.takeWhile isDol).length, L, bif L.isEmpty then 0 else (s2.takeWhile isDol).length, s3.takeWhile isDigit, s3.dropWhile isDigit⟩
/-- whether the side has the form -/
def sideOk (x : Sid) : Bool :=
  !(decide (1 < x.m) || (x.m == 1 && x.D.isEmpty)) && !(decide (1 < x.n) || (!x.rest.isEmpty || ((x.L.isEmpty && x.D.isEmpty) || (decide (7 < x.L.length) || (decide (10 < x.D.length) || (!x.D.isEmpty && x.D.head? == some 48))))))
theorem tw_nil (p : UInt8 → Bool) (c : UInt8) (r : Str) (h : p c = false) : (c :: r).takeWhile p = [] := by simp [List.takeWhile_cons, h]
theorem dw_nil (p : UInt8 → Bool) (c : UInt8) (r : Str) (h : p c = false) : (c :: r).dropWhile p = c :: r := by simp [List.dropWhile_cons, h]
theorem dol_letter : isLetter 36 = false := by decide
theorem dol_digit : isDigit 36 = false := by decide
theorem letter_dol (c : UInt8) (h : isLetter c = true) : isDol c = false := by
  unfold isDol
  by_cases e : c = 36
  · subst e; simp [dol_letter] at h
  · simpa using e
/-- behind one dollar cut off, or none: what is left begins with no dollar, or there were two -/
theorem cut_dol (s : Str) : (cutC 36 s).1 = s.dropWhile isDol ∧ (cutC 36 s).2 = ((s.takeWhile isDol).length == 1) ∧ (s.takeWhile isDol).length ≤ 1 ∨ 1 < (s.takeWhile isDol).length ∧ ∃ r, (cutC 36 s).1 = 36 :: r := by
  match s with
  | [] => left; simp [cutC]
  | d :: r =>
    by_cases h : d = 36
    · subst h
      match r with
      | [] => left; simp [cutC, isDol]
      | e :: r =>
        by_cases h2 : e = 36
        · subst h2; right
          refine ⟨by simp [List.takeWhile_cons, isDol], r, by simp [cutC]⟩
        · left
          have h3 : isDol e = false := by simpa [isDol] using h2
          simp [cutC, List.takeWhile_cons, List.dropWhile_cons, h3, show isDol 36 = true from rfl]
    · left
      have h3 : isDol d = false := by simpa [isDol] using h
      simp [cutC, List.takeWhile_cons, List.dropWhile_cons, h3, h]
theorem place_side (s : Str) : (place s).2 = sideOk (sideC s) ∧ ((place s).2 = true → (place s).1.L = (sideC s).L ∧ (place s).1.D = (sideC s).D ∧ (place s).1.ac = (!(sideC s).L.isEmpty && (sideC s).n == 1) ∧ (place s).1.ar = bif (sideC s).L.isEmpty then (sideC s).n == 1 else (sideC s).m == 1) := by
  rcases cut_dol s with ⟨h1, h2, h3⟩ | ⟨h1, r, h2⟩
  · unfold place placeC sideC
    dsimp only
    rw [h1, h2]
    generalize (s.takeWhile isDol).length = n at *
    generalize s.dropWhile isDol = s1 at *
    generalize s1.takeWhile isLetter = L at *
    generalize s1.dropWhile isLetter = s2 at *
    rcases Bool.eq_false_or_eq_true L.isEmpty with hL | hL
    · obtain rfl : L = [] := by simpa using hL
      simp only [List.isEmpty_nil, cond_true]
      generalize s2.takeWhile isDigit = D at *
      generalize s2.dropWhile isDigit = t at *
      refine ⟨?_, fun _ => by simp⟩
      unfold sideOk goodC
      have hn : n = 0 ∨ n = 1 := by omega
      rcases hn with rfl | rfl <;> cases t <;> cases D <;> simp <;> first | rfl | (rw [Bool.eq_iff_iff]; simp) | skip
    · simp only [hL, cond_false]
      rcases cut_dol s2 with ⟨k1, k2, k3⟩ | ⟨k1, r, k2⟩
      · rw [k1, k2]
        generalize (s2.takeWhile isDol).length = m at *
        generalize s2.dropWhile isDol = s3 at *
        generalize s3.takeWhile isDigit = D at *
        generalize s3.dropWhile isDigit = t at *
        have hLe := hL
        refine ⟨?_, fun _ => by simp⟩
        unfold sideOk goodC
        dsimp only
        rw [hLe]
        have hn : n = 0 ∨ n = 1 := by omega
        have hm : m = 0 ∨ m = 1 := by omega
        rcases hn with rfl | rfl <;> rcases hm with rfl | rfl <;> cases t <;> cases D <;> simp <;> first | rfl | (rw [Bool.eq_iff_iff]; simp) | skip
      · rw [k2]
        have f1 : ((36 :: r).dropWhile isDigit).isEmpty = false := by rw [dw_nil _ _ _ dol_digit]; rfl
        refine ⟨?_, fun h => ?_⟩
        · rw [f1, Bool.false_and]
          unfold sideOk
          dsimp only
          have : decide (1 < (s2.takeWhile isDol).length) = true := by simpa using k1
          rw [this]; rfl
        · rw [f1, Bool.false_and] at h; cases h
  · unfold place placeC sideC
    dsimp only
    rw [h2, tw_nil _ _ _ dol_letter, dw_nil _ _ _ dol_letter]
    simp only [List.isEmpty_nil, cond_true]
    have f1 : ((36 :: r).dropWhile isDigit).isEmpty = false := by rw [dw_nil _ _ _ dol_digit]; rfl
    refine ⟨?_, fun h => ?_⟩
    · rw [f1, Bool.false_and]
      unfold sideOk
      dsimp only
      have : decide (1 < (s.takeWhile isDol).length) = true := by simpa using h1
      rw [this]
      simp
    · rw [f1, Bool.false_and] at h; cases h
/-- the name of a sheet between apostrophes: what stands in it, and what follows the closing one -/
def quoted : Str → Str → Option (Str × Str)
  | _, [] => none
  | b, [c] => if c = 39 then some (b, []) else none
  | b, c :: d :: r => if c = 39 then (if d = 39 then quoted (b ++ [39]) r else some (b, d :: r)) else quoted (b ++ [c]) (d :: r)
/-- the first byte c parts the text -/
def cutAt (c : UInt8) : Str → Option (Str × Str)
  | [] => none
  | d :: r => if d = c then some ([], r) else (cutAt c r).map fun p => (d :: p.1, p.2)
def titleP (s : Str) : Str × Str × Bool :=
  if s.head? = some 39 then
    match quoted [] s.tail with
    | none => ([], [], false)
    | some (b, r) => (b, (cutC 33 r).1, (cutC 33 r).2 && !b.isEmpty)
  else match cutAt 33 s with
    | none => ([], s, true)
    | some (a, b) => (a, b, plain a)
end Go.Proofs.YtgphgimbnflhfaaDoor.RfP
