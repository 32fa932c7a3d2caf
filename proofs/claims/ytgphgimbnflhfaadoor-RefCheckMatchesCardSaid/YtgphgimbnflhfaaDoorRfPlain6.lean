/- References, plainly: copied and moved references. -/
import Derived.Test.YtgphgimbnflhfaaDoorRfPlain4
set_option linter.unusedSimpArgs false
set_option linter.unusedVariables false
namespace Go.Proofs.YtgphgimbnflhfaaDoor.RfP
def sortedP (x : Ref) : Ref :=
  let y := if x.r2 < x.r then { x with r := x.r2, r2 := x.r, ar := x.ar2, ar2 := x.ar } else x
  if y.c2 < y.c then { y with c := y.c2, c2 := y.c, ac := y.ac2, ac2 := y.ac } else y
theorem sorted_ordered (x : Ref) (h : x.k ≠ 0) : sortedP x = orderedP x := by unfold orderedP; rw [if_neg h]; rfl
def farP (n : Int) : Bool := decide (n < -1073741824 ∨ 1073741824 < n)
def insideP (x : Ref) : Bool := permP x.r && (permP x.c && (permP x.r2 && permP x.c2))
def fittingP (x : Ref) : Ref := if insideP (meaningP x) = true then meaningP x else badR
def mv (n by' : Int) (abs : Bool) : Int := if abs = true then n else n + by'
def addP (x : Ref) (d r : Int) : Ref := { x with r := mv x.r d x.ar, r2 := mv x.r2 d x.ar2, c := mv x.c r x.ac, c2 := mv x.c2 r x.ac2 }
/-- the program's copy -/
def copyP (x : Ref) (d r : Int) : Ref := fittingP (orderedP (meaningP (addP x d r)))
/-- the reference's copy, before it is sorted -/
def addR (x : Ref) (d r : Int) : Ref :=
  { x with
    r := if x.k = 3 ∨ x.k = 4 then x.r else mv x.r d x.ar
    r2 := if x.k = 3 ∨ x.k = 4 ∨ x.k = 0 then x.r2 else mv x.r2 d x.ar2
    c := if x.k = 2 ∨ x.k = 4 then x.c else mv x.c r x.ac
    c2 := if x.k = 2 ∨ x.k = 4 ∨ x.k = 0 then x.c2 else mv x.c2 r x.ac2 }
def copyR (x : Ref) (d r : Int) : Ref :=
  let s := if 1 ≤ x.k ∧ x.k ≤ 3 then sortedP (addR x d r) else addR x d r
  if insideP s = true then s else badR
theorem check_ok (x : Ref) (h : checkP x = 0) : (0 ≤ x.k ∧ x.k ≤ 4) ∧ formP x = true ∧ insideP x = true ∧ (x.k ≠ 0 → x.r ≤ x.r2 ∧ x.c ≤ x.c2) := by
  unfold checkP at h
  by_cases h0 : x.k < 0 ∨ 4 < x.k
  · rw [if_pos h0] at h; omega
  rw [if_neg h0] at h
  by_cases h1 : nameP x.sh ≠ 0
  · rw [if_pos h1] at h; exact absurd h h1
  rw [if_neg h1] at h
  by_cases h2 : formP x = false
  · rw [if_pos h2] at h; omega
  rw [if_neg h2] at h
  by_cases h3 : (permP x.r && (permP x.c && (permP x.r2 && permP x.c2))) = false
  · rw [if_pos h3] at h; omega
  rw [if_neg h3] at h
  by_cases h4 : x.k ≠ 0 ∧ (x.r2 < x.r ∨ x.c2 < x.c)
  · rw [if_pos h4] at h; omega
  exact ⟨by omega, by simpa using h2, by unfold insideP; simpa using h3, fun hk => by
    have : ¬ (x.r2 < x.r ∨ x.c2 < x.c) := fun h => h4 ⟨hk, h⟩
    omega⟩
theorem perm0 : permP 0 = true := by decide
theorem ord_k (y : Ref) : (orderedP y).k = y.k := by
  unfold orderedP
  by_cases h0 : y.k = 0
  · rw [if_pos h0]
  · rw [if_neg h0]
    by_cases h1 : y.r2 < y.r <;> by_cases h2 : y.c2 < y.c <;> simp [h1, h2]
theorem mean_k (y : Ref) : (meaningP y).k = y.k := by
  unfold meaningP
  by_cases h0 : y.k = 0
  · rw [if_pos h0]
  rw [if_neg h0]
  by_cases h2 : y.k = 2
  · rw [if_pos h2]
  rw [if_neg h2]
  by_cases h3 : y.k = 3
  · rw [if_pos h3]
  rw [if_neg h3]
  by_cases h4 : y.k = 4
  · rw [if_pos h4, h4]; rfl
  rw [if_neg h4]
theorem mean_mean (y : Ref) : meaningP (meaningP y) = meaningP y := by
  obtain ⟨sh, k, r, c, r2, c2, ar, ac, ar2, ac2⟩ := y
  by_cases h0 : k = 0
  · subst h0; rfl
  by_cases h2 : k = 2
  · subst h2; rfl
  by_cases h3 : k = 3
  · subst h3; rfl
  by_cases h4 : k = 4
  · subst h4; rfl
  simp [meaningP, h0, h2, h3, h4]
theorem mean_ord (y : Ref) (h : meaningP y = y) : meaningP (orderedP y) = orderedP y := by
  obtain ⟨sh, k, r, c, r2, c2, ar, ac, ar2, ac2⟩ := y
  by_cases h0 : k = 0
  · subst h0; exact h
  by_cases h2 : k = 2
  · subst h2
    simp [meaningP] at h
    obtain ⟨rfl, rfl, rfl, rfl⟩ := h
    by_cases h1 : r2 < r <;> simp [orderedP, meaningP, h1]
  by_cases h3 : k = 3
  · subst h3
    simp [meaningP] at h
    obtain ⟨rfl, rfl, rfl, rfl⟩ := h
    by_cases h1 : c2 < c <;> simp [orderedP, meaningP, h1]
  by_cases h4 : k = 4
  · subst h4
    simp [meaningP, badR] at h
    obtain ⟨rfl, rfl, rfl, rfl, rfl, rfl, rfl, rfl, rfl⟩ := h
    rfl
  have e := ord_k ⟨sh, k, r, c, r2, c2, ar, ac, ar2, ac2⟩
  generalize orderedP ⟨sh, k, r, c, r2, c2, ar, ac, ar2, ac2⟩ = z at *
  dsimp only at e
  unfold meaningP; rw [e, if_neg h0, if_neg h2, if_neg h3, if_neg h4]
theorem ord_bad : orderedP badR = badR := rfl
theorem add_same (x : Ref) (d r : Int) (hk : 0 ≤ x.k ∧ x.k ≤ 4) (hf : formP x = true) : meaningP (addP x d r) = addR x d r := by
  obtain ⟨sh, k, a, c, a2, c2, ar, ac, ar2, ac2⟩ := x
  dsimp only at *
  unfold formP firstP secondP thirdP fourthP at hf
  have hk5 : k = 0 ∨ k = 1 ∨ k = 2 ∨ k = 3 ∨ k = 4 := by omega
  clear hk
  rcases hk5 with rfl | rfl | rfl | rfl | rfl
  · simp at hf
    obtain ⟨⟨rfl, rfl⟩, rfl, rfl⟩ := hf
    simp [addP, addR, meaningP]
  · simp [addP, addR, meaningP]
  · simp at hf
    obtain ⟨⟨rfl, rfl⟩, rfl, rfl⟩ := hf
    simp [addP, addR, meaningP]
  · simp at hf
    obtain ⟨⟨rfl, rfl⟩, rfl, rfl⟩ := hf
    simp [addP, addR, meaningP]
  · simp at hf
    obtain ⟨⟨rfl, rfl⟩, ⟨rfl, rfl⟩, ⟨rfl, rfl⟩, ⟨rfl, rfl⟩, rfl⟩ := hf
    simp [addP, addR, meaningP, badR]
theorem copy_same (x : Ref) (d r : Int) (h : checkP x = 0) : copyP x d r = copyR x d r := by
  obtain ⟨hk, hf, _, _⟩ := check_ok x h
  have e1 := add_same x d r hk hf
  have e2 : meaningP (orderedP (meaningP (addP x d r))) = orderedP (meaningP (addP x d r)) := mean_ord _ (mean_mean _)
  unfold copyP fittingP
  rw [e2, e1]
  have e3 : orderedP (addR x d r) = if 1 ≤ x.k ∧ x.k ≤ 3 then sortedP (addR x d r) else addR x d r := by
    by_cases h1 : 1 ≤ x.k ∧ x.k ≤ 3
    · rw [if_pos h1, sorted_ordered]
      show x.k ≠ 0
      omega
    · rw [if_neg h1]
      by_cases h0 : x.k = 0
      · unfold orderedP; rw [if_pos (show (addR x d r).k = 0 from h0)]
      · have h4 : x.k = 4 := by omega
        rw [← e1]
        have : meaningP (addP x d r) = badR := by
          unfold meaningP; rw [if_neg (by show x.k ≠ 0; omega), if_neg (by show x.k ≠ 2; omega), if_neg (by show x.k ≠ 3; omega), if_pos (by show x.k = 4; omega)]
        rw [this]; rfl
  rw [e3]; rfl
structure Rect where
  r : Int
  c : Int
  h : Int
  w : Int
def blockP (b : Rect) (d r : Int) : Int :=
  if b.r < 0 ∨ 1073741824 ≤ b.r ∨ b.c < 0 ∨ 1073741824 ≤ b.c ∨ b.h < 1 ∨ 1073741824 < b.h ∨ b.w < 1 ∨ 1073741824 < b.w ∨ farP d = true ∨ farP r = true then 2 else 0
/-- the program's move -/
def moveP (x : Ref) (b : Rect) (d r : Int) : Ref :=
  if x.k ≠ 0 ∧ x.k ≠ 1 then x
  else if x.r < b.r ∨ b.r + b.h ≤ max x.r x.r2 ∨ x.c < b.c ∨ b.c + b.w ≤ max x.c x.c2 then x
  else fittingP { x with r := x.r + d, r2 := x.r2 + d, c := x.c + r, c2 := x.c2 + r }
/-- the reference's move -/
def moveR (x : Ref) (b : Rect) (d r : Int) : Ref :=
  if 1 < x.k then x
  else
    let s := if x.k = 0 then { x with r2 := x.r, c2 := x.c } else x
    if s.r < b.r ∨ s.c < b.c ∨ b.r + b.h - 1 < s.r2 ∨ b.c + b.w - 1 < s.c2 then x
    else
      let t : Ref := { s with r := s.r + d, r2 := s.r2 + d, c := s.c + r, c2 := s.c2 + r }
      if insideP t = true then (if x.k = 0 then { t with r2 := 0, c2 := 0 } else t) else badR
theorem move_same (x : Ref) (b : Rect) (d r : Int) (h : checkP x = 0) : moveP x b d r = moveR x b d r := by
  obtain ⟨hk, hf, hin, hord⟩ := check_ok x h
  clear h
  obtain ⟨sh, k, a, c, a2, c2, ar, ac, ar2, ac2⟩ := x
  obtain ⟨br, bc, bh, bw⟩ := b
  dsimp only at *
  unfold insideP permP at hin
  simp at hin
  by_cases h0 : k = 0
  · subst h0
    unfold formP firstP secondP thirdP fourthP at hf
    simp at hf
    obtain ⟨⟨rfl, rfl⟩, rfl, rfl⟩ := hf
    unfold moveP moveR
    dsimp only
    rw [if_neg (by simp), if_neg (show ¬ ((1 : Int) < 0) by omega)]
    simp only [if_true]
    by_cases hq : a < br ∨ c < bc ∨ br + bh - 1 < a ∨ bc + bw - 1 < c
    · rw [if_pos (by omega), if_pos hq]
    · rw [if_neg (by omega), if_neg hq]
      unfold fittingP meaningP insideP
      dsimp only
      simp only [if_true, perm0]
      cases permP (a + d) <;> cases permP (c + r) <;> simp
  · by_cases h1 : k = 1
    · subst h1
      obtain ⟨o1, o2⟩ := hord (by omega)
      unfold moveP moveR
      dsimp only
      rw [if_neg (by simp), if_neg (show ¬ ((1 : Int) < 1) by omega)]
      simp only [show ((1 : Int) = 0) = False by simp, if_false]
      by_cases hq : a < br ∨ c < bc ∨ br + bh - 1 < a2 ∨ bc + bw - 1 < c2
      · rw [if_pos (by omega), if_pos hq]
      · rw [if_neg (by omega), if_neg hq]
        unfold fittingP meaningP
        simp
    · unfold moveP moveR
      dsimp only
      rw [if_pos (by omega), if_pos (by omega)]
end Go.Proofs.YtgphgimbnflhfaaDoor.RfP
