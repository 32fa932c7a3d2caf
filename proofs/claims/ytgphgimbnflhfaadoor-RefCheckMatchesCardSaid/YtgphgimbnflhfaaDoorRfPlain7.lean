/- References, plainly: their text. -/
import Derived.Test.YtgphgimbnflhfaaDoorRfPlain6
import Derived.Lib.Replace
import Derived.Lib.SplitLaws
import Derived.Lib.ItoaNum
set_option linter.unusedSimpArgs false
set_option linter.unusedVariables false
namespace Go.Proofs.YtgphgimbnflhfaaDoor.RfP
open Go
theorem replace_one (c : UInt8) (new : List UInt8) (hne : ¬ new = [c]) : ∀ s : List UInt8, Lib.replaceAll s [c] new = s.flatMap (fun b => if b = c then new else [b]) := by
  have h0 : ([c] == new) = false := by
    cases h : ([c] == new) with
    | false => rfl
    | true => exact absurd (eq_of_beq h).symm hne
  have key : ∀ s : List UInt8, Lib.replaceK [c] new (Lib.count s [c]) s = s.flatMap (fun b => if b = c then new else [b]) := by
    intro s
    induction s with
    | nil =>
      rw [Lib.count_miss (by simp [Lib.index])]
      rfl
    | cons b l ih =>
      by_cases hb : b = c
      · subst hb
        have hix : Lib.index (b :: l) [b] = ((0 : Nat) : Int) := by rw [Lib.index]; simp [List.isPrefixOf]
        rw [Lib.count_cons_eq, Nat.add_comm, Lib.replaceK_hit _ _ _ _ 0 hix]
        simp [ih]
      · rw [Lib.count_cons_ne b c l hb, List.flatMap_cons, if_neg hb, ← ih]
        cases hn : Lib.count l [c] with
        | zero => simp [Lib.replaceK]
        | succ k =>
          obtain ⟨j, hj⟩ := Lib.index_of_count (s := l) (old := [c]) (by omega)
          have hp : ([c] : List UInt8).isPrefixOf (b :: l) = false := by simp [List.isPrefixOf, Ne.symm hb]
          have hix : Lib.index (b :: l) [c] = ((j + 1 : Nat) : Int) := by
            rw [Lib.index, hp, hj]
            have : ((j : Int) == -1) = false := by simp
            simp [this]
          rw [Lib.replaceK_hit _ _ _ _ _ hix, Lib.replaceK_hit _ _ _ _ _ hj]
          simp
  intro s
  unfold Lib.replaceAll Lib.replace Lib.replaceNum
  rw [h0, if_neg (by simp), if_pos (.inl (by omega))]
  exact key s
def dbl (s : Str) : Str := s.flatMap (fun b => if b = 39 then [39, 39] else [b])
def sheetT (s : Str) : Str := if s = [] then [] else if plain s = true then s ++ [33] else [39] ++ dbl s ++ [39, 33]
def mkT (abs : Bool) (s : Str) : Str := if abs = true then [36] ++ s else s
def colT (n : Int) (abs : Bool) : Str := mkT abs (ltr 8 (n.toNat + 1))
def rowT (n : Int) (abs : Bool) : Str := mkT abs (Lib.decDigits (n.toNat + 1))
/-- the text of a reference -/
def textP (x : Ref) : Str :=
  if x.k = 0 then sheetT x.sh ++ colT x.c x.ac ++ rowT x.r x.ar
  else if x.k = 1 then sheetT x.sh ++ colT x.c x.ac ++ rowT x.r x.ar ++ [58] ++ colT x.c2 x.ac2 ++ rowT x.r2 x.ar2
  else if x.k = 2 then sheetT x.sh ++ rowT x.r x.ar ++ [58] ++ rowT x.r2 x.ar2
  else if x.k = 3 then sheetT x.sh ++ colT x.c x.ac ++ [58] ++ colT x.c2 x.ac2
  else refTxt
theorem dbl_len (s : Str) : (dbl s).length ≤ 2 * s.length := by
  unfold dbl
  induction s with
  | nil => simp
  | cons b l ih => rw [List.flatMap_cons, List.length_append, List.length_cons]; split <;> (first | (rw [List.length_cons, List.length_cons, List.length_nil]; omega) | (rw [List.length_cons, List.length_nil]; omega))
theorem dig_len (n : Nat) : n < 10 ^ 11 → (Lib.decDigits n).length ≤ 11 := by
  have : ∀ (m n : Nat), n < 10 ^ (m + 1) → (Lib.decDigits n).length ≤ m + 1 := by
    intro m
    induction m with
    | zero => intro n h; rw [Lib.decDigits, dif_pos (by omega)]; simp
    | succ m ih =>
      intro n h
      rw [Lib.decDigits]
      by_cases h1 : n < 10
      · rw [dif_pos h1]; simp
      · rw [dif_neg h1, List.length_append]
        have := ih (n / 10) (by rw [Nat.pow_succ] at h; omega)
        simp; omega
  exact this 10 n
end Go.Proofs.YtgphgimbnflhfaaDoor.RfP
