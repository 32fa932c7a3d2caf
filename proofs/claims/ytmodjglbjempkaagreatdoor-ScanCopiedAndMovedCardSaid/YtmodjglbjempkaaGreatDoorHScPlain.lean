/- Formulas divided into tokens, plainly. -/
import Derived.Test.YtmodjglbjempkaaGreatDoorHPa
set_option linter.unusedSimpArgs false
set_option linter.unusedVariables false
namespace Go.Proofs.YtmodjglbjempkaaGreatDoor.ScP
open RfP
abbrev Str := List UInt8
def cornerC (c : UInt8) : Bool := isLetter c || isDigit c || c == 36
def wordlyC (c : UInt8) : Bool := cornerC c || c == 95 || c == 46
def blankC (c : UInt8) : Bool := c == 32 || c == 9
/-- how many bytes at the beginning fit -/
def runP (p : UInt8 → Bool) (s : Str) : Nat := (s.takeWhile p).length
theorem run_le (p : UInt8 → Bool) (s : Str) : runP p s ≤ s.length := (List.takeWhile_sublist p).length_le
theorem drop_at (s : Str) (n : Nat) (h : n < s.length) : s.drop n = s.getD n 0 :: s.drop (n + 1) := by
  rw [List.drop_eq_getElem_cons h, List.getD_eq_getElem?_getD, List.getElem?_eq_getElem h]; rfl
theorem run_inn {p : UInt8 → Bool} {s : Str} {n : Nat} (h : n < s.length) (hp : p (s.getD n 0) = true) : runP p (s.drop n) = runP p (s.drop (n + 1)) + 1 := by
  rw [drop_at s n h]; unfold runP; rw [List.takeWhile_cons_of_pos hp]; rfl
theorem run_out {p : UInt8 → Bool} {s : Str} {n : Nat} (h : n < s.length) (hp : p (s.getD n 0) = false) : runP p (s.drop n) = 0 := by
  rw [drop_at s n h]; unfold runP; rw [List.takeWhile_cons_of_neg (by rw [hp]; simp)]; rfl
theorem run_end {p : UInt8 → Bool} {s : Str} {n : Nat} (h : s.length ≤ n) : runP p (s.drop n) = 0 := by
  rw [List.drop_eq_nil_of_le h]; rfl
theorem run_drop (p : UInt8 → Bool) (s : Str) (n : Nat) : runP p (s.drop n) ≤ s.length - n := by
  have := run_le p (s.drop n); simpa using this
/-- what stands at the end of a run does not fit -/
theorem run_next {p : UInt8 → Bool} : ∀ (s : Str), runP p s < s.length → p (s.getD (runP p s) 0) = false
  | [], h => by simp at h
  | c :: r, h => by
    by_cases hc : p c = true
    · have e : runP p (c :: r) = runP p r + 1 := by unfold runP; rw [List.takeWhile_cons_of_pos hc]; rfl
      rw [e] at h ⊢
      have := run_next r (by simpa using h)
      simpa using this
    · have e : runP p (c :: r) = 0 := by unfold runP; rw [List.takeWhile_cons_of_neg hc]; rfl
      rw [e]; simpa using hc
theorem run_pos {p : UInt8 → Bool} {s : Str} (h : 0 < runP p s) : 0 < s.length ∧ p (s.getD 0 0) = true := by
  cases s with
  | nil => simp [runP] at h
  | cons c r =>
    refine ⟨by simp, ?_⟩
    by_cases hc : p c = true
    · exact hc
    · unfold runP at h; rw [List.takeWhile_cons_of_neg hc] at h; simp at h
def isRefP (s : Str) : Bool := decide ((parseP s).2 = 0)
/-- a reference of which the first n bytes are one side -/
def areaP (s : Str) (n : Nat) : Nat :=
  if n < s.length ∧ s.getD n 0 = 58 ∧ isRefP (s.take (n + 1 + runP cornerC (s.drop (n + 1)))) = true then n + 1 + runP cornerC (s.drop (n + 1))
  else if isRefP (s.take n) = true then n else 0
def sheetedP (s : Str) (n : Nat) : Nat :=
  if n < s.length ∧ s.getD n 0 = 33 then areaP s (n + 1 + runP cornerC (s.drop (n + 1))) else 0
theorem area_le (s : Str) (n : Nat) (h : n ≤ s.length) : areaP s n ≤ s.length := by
  unfold areaP
  have := run_drop cornerC s (n + 1)
  split
  · omega
  · split <;> omega
theorem sheeted_le (s : Str) (n : Nat) : sheetedP s n ≤ s.length := by
  unfold sheetedP
  have := run_drop cornerC s (n + 1)
  split
  · exact area_le s _ (by omega)
  · omega
/-- from place i on: where the closing mark stands -/
def quoP (m : UInt8) : Str → Nat → Nat
  | [], _ => 0
  | [c], i => if c = m then i + 1 else 0
  | c :: d :: r, i => if c = m then (if d = m then quoP m r (i + 2) else i + 1) else quoP m (d :: r) (i + 1)
def quotedP (s : Str) (m : UInt8) : Nat := quoP m (s.drop 1) 1
theorem quo_skip {m : UInt8} {s : Str} {i : Nat} (h : i < s.length) (hc : ¬ s.getD i 0 = m) : quoP m (s.drop i) i = quoP m (s.drop (i + 1)) (i + 1) := by
  rw [drop_at s i h]
  generalize s.drop (i + 1) = r
  cases r with
  | nil => unfold quoP; rw [if_neg hc]
  | cons d r => conv => lhs; unfold quoP
                rw [if_neg hc]
theorem quo_two {m : UInt8} {s : Str} {i : Nat} (h : i + 1 < s.length) (hc : s.getD i 0 = m) (hd : s.getD (i + 1) 0 = m) : quoP m (s.drop i) i = quoP m (s.drop (i + 2)) (i + 2) := by
  rw [drop_at s i (by omega), drop_at s (i + 1) h]
  conv => lhs; unfold quoP
  rw [if_pos hc, if_pos hd]
theorem quo_end {m : UInt8} {s : Str} {i : Nat} (h : i < s.length) (hc : s.getD i 0 = m) (hd : i + 1 < s.length → ¬ s.getD (i + 1) 0 = m) : quoP m (s.drop i) i = i + 1 := by
  rw [drop_at s i h]
  by_cases h1 : i + 1 < s.length
  · rw [drop_at s (i + 1) h1]; unfold quoP; rw [if_pos hc, if_neg (hd h1)]
  · rw [List.drop_eq_nil_of_le (by omega)]; unfold quoP; rw [if_pos hc]
theorem quo_none {m : UInt8} {s : Str} {i : Nat} (h : s.length ≤ i) : quoP m (s.drop i) i = 0 := by
  rw [List.drop_eq_nil_of_le h]; unfold quoP; rfl
theorem quo_le (m : UInt8) : ∀ (s : Str) (i : Nat), quoP m s i ≤ i + s.length
  | [], i => by unfold quoP; omega
  | [c], i => by unfold quoP; split <;> simp
  | c :: d :: r, i => by
    unfold quoP
    have h1 := quo_le m r (i + 2)
    have h2 := quo_le m (d :: r) (i + 1)
    simp only [List.length_cons] at h2 ⊢
    split
    · split <;> omega
    · omega
/-- from [ to its ] -/
def brP : Str → Nat → Int → Nat
  | [], _, _ => 0
  | c :: r, i, d => if (if c = 91 then d + 1 else if c = 93 then d - 1 else d) = 0 then i + 1 else brP r (i + 1) (if c = 91 then d + 1 else if c = 93 then d - 1 else d)
def bracketsP (s : Str) : Nat := brP s 0 0
theorem br_step {s : Str} {i : Nat} {d d' : Int} (h : i < s.length) (hd : (if s.getD i 0 = 91 then d + 1 else if s.getD i 0 = 93 then d - 1 else d) = d') (hn : ¬ d' = 0) : brP (s.drop i) i d = brP (s.drop (i + 1)) (i + 1) d' := by
  rw [drop_at s i h]; conv => lhs; unfold brP
  rw [hd, if_neg hn]
theorem br_stop {s : Str} {i : Nat} {d : Int} (h : i < s.length) (hd : (if s.getD i 0 = 91 then d + 1 else if s.getD i 0 = 93 then d - 1 else d) = 0) : brP (s.drop i) i d = i + 1 := by
  rw [drop_at s i h]; unfold brP
  rw [if_pos hd]
theorem br_none {s : Str} {i : Nat} {d : Int} (h : s.length ≤ i) : brP (s.drop i) i d = 0 := by
  rw [List.drop_eq_nil_of_le h]; rfl
theorem br_le : ∀ (s : Str) (i : Nat) (d : Int), brP s i d ≤ i + s.length
  | [], i, d => by unfold brP; omega
  | c :: r, i, d => by
    unfold brP
    generalize (if c = 91 then d + 1 else if c = 93 then d - 1 else d) = d'
    have h2 := br_le r (i + 1) d'
    simp only [List.length_cons]
    split <;> omega
/-- where the digits behind a point end -/
def fracP (s : Str) (n : Nat) : Nat := if n < s.length ∧ s.getD n 0 = 46 ∧ 0 < runP isDigit (s.drop (n + 1)) then n + 1 + runP isDigit (s.drop (n + 1)) else n
/-- behind e -/
def signP (s : Str) (m : Nat) : Nat := if m < s.length ∧ (s.getD m 0 = 43 ∨ s.getD m 0 = 45) then m + 1 else m
def expP (s : Str) (n : Nat) : Nat := if n < s.length ∧ (s.getD n 0 = 101 ∨ s.getD n 0 = 69) ∧ 0 < runP isDigit (s.drop (signP s (n + 1))) then signP s (n + 1) + runP isDigit (s.drop (signP s (n + 1))) else n
def numberP (s : Str) : Nat := expP s (fracP s (runP isDigit s))
theorem frac_le (s : Str) (n : Nat) (h : n ≤ s.length) : fracP s n ≤ s.length ∧ n ≤ fracP s n := by
  unfold fracP
  have := run_drop isDigit s (n + 1)
  split <;> omega
theorem sign_le (s : Str) (m : Nat) (h : m ≤ s.length) : signP s m ≤ s.length ∧ m ≤ signP s m := by
  unfold signP; split <;> omega
theorem exp_le (s : Str) (n : Nat) (h : n ≤ s.length) : expP s n ≤ s.length ∧ n ≤ expP s n := by
  unfold expP
  split
  · rename_i hc
    have := sign_le s (n + 1) (by omega)
    have := run_drop isDigit s (signP s (n + 1))
    omega
  · omega
theorem number_le (s : Str) : numberP s ≤ s.length := by
  unfold numberP
  have := run_le isDigit s
  have := frac_le s (runP isDigit s) this
  exact (exp_le s _ this.1).1
def rowsP (s : Str) : Nat :=
  if runP isDigit s < s.length ∧ s.getD (runP isDigit s) 0 = 58 ∧ isRefP (s.take (runP isDigit s + 1 + runP cornerC (s.drop (runP isDigit s + 1)))) = true then runP isDigit s + 1 + runP cornerC (s.drop (runP isDigit s + 1)) else 0
theorem rows_le (s : Str) : rowsP s ≤ s.length := by
  unfold rowsP
  have := run_drop cornerC s (runP isDigit s + 1)
  split <;> omega
def freeP (w : Str) : Bool := !w.contains 36
/-- the token at a letter, _ or $ -/
def wordP (s : Str) : Nat × Nat :=
  let n := runP wordlyC s
  let w := s.take n
  let d := s.getD n 0
  if n < s.length ∧ d = 33 ∧ plain w = true then (4, sheetedP s n)
  else if n < s.length ∧ d = 40 ∧ freeP w = true then (6, n)
  else if n < s.length ∧ d = 91 ∧ freeP w = true then (7, if bracketsP (s.drop n) = 0 then 0 else n + bracketsP (s.drop n))
  else if areaP s n ≠ 0 then (4, areaP s n)
  else if freeP w = true then (5, n) else (5, 0)
def refT : Str := [35, 82, 69, 70, 33]
def faults : List Str := [[35, 68, 73, 86, 47, 48, 33], [35, 86, 65, 76, 85, 69, 33], [35, 78, 65, 77, 69, 63], [35, 78, 85, 77, 33], [35, 78, 47, 65], [35, 83, 80, 73, 76, 76, 33], [35, 67, 89, 67, 76, 69, 33]]
def faultP (s : Str) : List Str → Nat × Nat
  | [] => (8, 1)
  | f :: r => if f.isPrefixOf s = true then (3, f.length) else faultP s r
def ops : Str := [43, 45, 42, 47, 94, 38, 61, 60, 62, 37, 40, 41, 44, 59, 123, 125]
/-- the first token -/
def tokP (s : Str) : Nat × Nat :=
  let c := s.getD 0 0
  if blankC c = true then (0, runP blankC s)
  else if c = 34 then (2, quotedP s c)
  else if c = 35 then (if refT.isPrefixOf s = true then (4, 5) else faultP s faults)
  else if c = 39 then (if quotedP s c = 0 then (4, 0) else (4, sheetedP s (quotedP s c)))
  else if isDigit c = true then (if rowsP s = 0 then (1, numberP s) else (4, rowsP s))
  else if (isLetter c || c == 95 || c == 36) = true then wordP s
  else if ([60, 61] : Str).isPrefixOf s = true ∨ ([62, 61] : Str).isPrefixOf s = true ∨ ([60, 62] : Str).isPrefixOf s = true then (8, 2)
  else if ops.contains c = true then (8, 1)
  else (8, 0)
end Go.Proofs.YtmodjglbjempkaaGreatDoor.ScP
