/- References, plainly: letters of columns, their numbers, and what a text of a reference says. -/
import Derived.Laws.BitsLemmas
set_option linter.unusedSimpArgs false
set_option linter.unusedVariables false
namespace Go.Proofs.YtgphgimbnflhfaaDoor.RfP
abbrev Str := List UInt8
def isLetter (c : UInt8) : Bool := (65 ≤ c && c ≤ 90) || (97 ≤ c && c ≤ 122)
def isDigit (c : UInt8) : Bool := 48 ≤ c && c ≤ 57
/-- the letters of the number n = column + 1: the program's loop, from the right -/
def ltr : Nat → Nat → Str
  | 0, _ => []
  | f + 1, n => if n = 0 then [] else ltr f ((n - 1) / 26) ++ [UInt8.ofNat (65 + (n - 1) % 26)]
/-- the sum of the first n powers of 26 -/
def S26 : Nat → Nat
  | 0 => 0
  | n + 1 => 26 * S26 n + 1
/-- n digits of the base 26 as letters: the reference's loop -/
def dig26 : Nat → Nat → Str
  | 0, _ => []
  | n + 1, c => dig26 n (c / 26) ++ [UInt8.ofNat (65 + c % 26)]
theorem ltr_dig : ∀ (n f c : Nat), n ≤ f → c < 26 ^ n → ltr f (c + S26 n) = dig26 n c
  | 0, f, c, _, hc => by
    have h0 : c = 0 := by simpa using hc
    subst h0
    cases f with
    | zero => rfl
    | succ f => simp [ltr, S26, dig26]
  | n + 1, f, c, hf, hc => by
    obtain ⟨f, rfl⟩ : ∃ g, f = g + 1 := ⟨f - 1, by omega⟩
    have e1 : (c + S26 (n + 1) - 1) / 26 = c / 26 + S26 n := by simp only [S26]; omega
    have e2 : (c + S26 (n + 1) - 1) % 26 = c % 26 := by simp only [S26]; omega
    simp only [ltr, dig26]
    rw [if_neg (by simp only [S26]; omega), e1, e2, ltr_dig n f (c / 26) (by omega) (by rw [Nat.pow_succ] at hc; omega)]
theorem dig26_len : ∀ (n c : Nat), (dig26 n c).length = n
  | 0, _ => rfl
  | n + 1, c => by simp only [dig26, List.length_append, dig26_len n]; rfl
theorem dig26_cons : ∀ (k c : Nat), dig26 (k + 1) c = UInt8.ofNat (65 + c / 26 ^ k % 26) :: dig26 k c
  | 0, c => by simp [dig26]
  | k + 1, c => by
    have ih := dig26_cons k (c / 26)
    rw [show dig26 (k + 1 + 1) c = dig26 (k + 1) (c / 26) ++ [UInt8.ofNat (65 + c % 26)] from rfl, ih, Nat.div_div_eq_div_mul, Nat.pow_succ, Nat.mul_comm 26]
    rfl
theorem ltr_step (f n : Nat) (h : n ≠ 0) : ltr (f + 1) n = ltr f ((n - 1) / 26) ++ [UInt8.ofNat (65 + (n - 1) % 26)] := by simp only [ltr]; rw [if_neg h]
theorem ltr_zero (f : Nat) : ltr f 0 = [] := by cases f <;> simp [ltr]
theorem ltr_len : ∀ (f n : Nat), (ltr f n).length ≤ f
  | 0, _ => by simp [ltr]
  | f + 1, n => by
    by_cases h : n = 0
    · subst h; simp [ltr]
    · rw [ltr_step f n h, List.length_append]; have := ltr_len f ((n - 1) / 26); simp; omega
/-- the number of a text of letters -/
def val26 (s : Str) : Nat := s.foldl (fun n c => 26 * n + c.toNat % 32) 0
theorem val26_snoc (s : Str) (c : UInt8) : val26 (s ++ [c]) = 26 * val26 s + c.toNat % 32 := by unfold val26; rw [List.foldl_append]; rfl
theorem val26_fold : ∀ (s : Str) (n : Nat), s.foldl (fun n c => 26 * n + c.toNat % 32) n = n * 26 ^ s.length + val26 s
  | [], n => by simp [val26]
  | c :: r, n => by
    have h1 := val26_fold r (26 * n + c.toNat % 32)
    have h2 := val26_fold r (26 * 0 + c.toNat % 32)
    unfold val26 at h1 h2 ⊢
    simp only [List.foldl_cons, List.length_cons, Nat.pow_succ] at h1 h2 ⊢
    rw [h1, h2, Nat.add_mul, Nat.mul_zero, Nat.zero_add, Nat.add_assoc, Nat.mul_comm 26 n, Nat.mul_assoc, Nat.mul_comm 26 (26 ^ _)]
theorem val26_cons (c : UInt8) (r : Str) : val26 (c :: r) = c.toNat % 32 * 26 ^ r.length + val26 r := by
  have := val26_fold r (26 * 0 + c.toNat % 32)
  unfold val26 at this ⊢
  simp only [List.foldl_cons]
  rw [this, Nat.mul_zero, Nat.zero_add]
theorem val26_lt : ∀ s : Str, (∀ c ∈ s, isLetter c = true) → val26 s < 2 * 26 ^ s.length
  | [], _ => by simp [val26]
  | c :: r, h => by
    have ih := val26_lt r (fun d hd => h d (by simp [hd]))
    have hc := h c (by simp)
    have hm : c.toNat % 32 ≤ 26 := by
      unfold isLetter at hc
      simp only [Bool.or_eq_true, Bool.and_eq_true, decide_eq_true_eq, UInt8.le_iff_toNat_le] at hc
      simp at hc; omega
    rw [val26_cons, List.length_cons, Nat.pow_succ]
    have := Nat.mul_le_mul_right (26 ^ r.length) hm
    omega
def lv (c : UInt8) : Nat := c.toNat % 32 - 1
/-- what the reference adds first: the letters as digits -/
def lowS : Str → Nat
  | [] => 0
  | c :: r => 26 ^ r.length * lv c + lowS r
/-- what it adds then -/
def sumP : Nat → Nat
  | 0 => 0
  | n + 1 => sumP n + 26 ^ (n + 1)
theorem S26_succ : ∀ n, S26 (n + 1) = 26 ^ n + S26 n
  | 0 => rfl
  | n + 1 => by
    have ih := S26_succ n
    have h1 : S26 (n + 1 + 1) = 26 * S26 (n + 1) + 1 := rfl
    have h2 : S26 (n + 1) = 26 * S26 n + 1 := rfl
    rw [Nat.pow_succ]; omega
theorem sumP_eq : ∀ n, sumP n + 1 = S26 (n + 1)
  | 0 => rfl
  | n + 1 => by
    rw [S26_succ, ← sumP_eq n]; simp only [sumP]; omega
theorem low_val : ∀ s : Str, (∀ c ∈ s, isLetter c = true) → lowS s + S26 s.length = val26 s
  | [], _ => rfl
  | c :: r, h => by
    have ih := low_val r (fun d hd => h d (by simp [hd]))
    have hc := h c (by simp)
    have hm : 1 ≤ c.toNat % 32 := by
      unfold isLetter at hc
      simp only [Bool.or_eq_true, Bool.and_eq_true, decide_eq_true_eq, UInt8.le_iff_toNat_le] at hc
      simp at hc; omega
    rw [val26_cons, List.length_cons, S26_succ, ← ih]
    simp only [lowS, lv]
    have e : c.toNat % 32 = (c.toNat % 32 - 1) + 1 := by omega
    generalize c.toNat % 32 - 1 = q at *
    rw [e, Nat.add_mul, Nat.one_mul, Nat.mul_comm q]; omega
theorem val26_ref (s : Str) (h0 : s ≠ []) (h : ∀ c ∈ s, isLetter c = true) : val26 s = lowS s + sumP (s.length - 1) + 1 := by
  have h1 : 0 < s.length := List.length_pos_iff.2 h0
  have h2 := sumP_eq (s.length - 1)
  rw [show s.length - 1 + 1 = s.length from by omega] at h2
  have := low_val s h
  omega
/-- the program's Column: the number and the error (0: none; the numbers of the errors are parameters) -/
def allL (s : Str) : Bool := s.all isLetter
/-- a plain name -/
def plainC (c : UInt8) : Bool := isLetter c || isDigit c || c == 95
def plain (s : Str) : Bool := match s with
  | [] => false
  | c :: r => isLetter c && r.all plainC
end Go.Proofs.YtgphgimbnflhfaaDoor.RfP
