/- References, plainly: the reference's reading is the program's. -/
import Derived.Test.YtgphgimbnflhfaaDoorRfPlain3
set_option linter.unusedSimpArgs false
set_option linter.unusedVariables false
namespace Go.Proofs.YtgphgimbnflhfaaDoor.RfP
/-- a corner that place accepts -/
structure Good (c : Cor) : Prop where
  letters : allL c.L = true
  digits : ∀ d ∈ c.D, isDigit d = true
  l7 : c.L.length ≤ 7
  d10 : c.D.length ≤ 10
theorem cutAt_len (c : UInt8) : ∀ s p, cutAt c s = some p → p.1.length + p.2.length + 1 = s.length
  | [], _, h => by cases h
  | d :: r, p, h => by
    unfold cutAt at h
    by_cases e : d = c
    · rw [if_pos e] at h; injection h with h; subst h; simp
    · rw [if_neg e] at h
      cases e2 : cutAt c r with
      | none => rw [e2] at h; cases h
      | some q =>
        rw [e2] at h; injection h with h; subst h
        have := cutAt_len c r q e2
        simp; omega
theorem cutR_len (c : UInt8) (s : Str) : (cutR c s).1.length ≤ s.length ∧ (cutR c s).2.1.length ≤ s.length := by
  unfold cutR
  cases e : cutAt c s with
  | none => simp
  | some p => have := cutAt_len c s p e; dsimp only; omega
theorem quoted_len : ∀ (n : Nat) (b s : Str) (p : Str × Str), s.length ≤ n → quoted b s = some p → p.2.length ≤ s.length
  | _, b, [], p, _, h => by simp [quoted] at h
  | _, b, [c], p, _, h => by
    simp only [quoted] at h
    by_cases e : c = 39
    · rw [if_pos e] at h; injection h with h; subst h; simp
    · rw [if_neg e] at h; cases h
  | n + 1, b, c :: d :: r, p, hn, h => by
    simp only [quoted] at h
    by_cases e : c = 39
    · rw [if_pos e] at h
      by_cases e2 : d = 39
      · rw [if_pos e2] at h
        have := quoted_len n _ r p (by simp at hn; omega) h
        simp; omega
      · rw [if_neg e2] at h; injection h with h; subst h; simp
    · rw [if_neg e] at h
      have := quoted_len n _ (d :: r) p (by simp at hn ⊢; omega) h
      simp at this ⊢; omega
  | 0, b, c :: d :: r, p, hn, _ => by simp at hn
theorem cutC_len (c : UInt8) (s : Str) : (cutC c s).1.length ≤ s.length := by
  cases s with
  | nil => simp [cutC]
  | cons d r => unfold cutC; dsimp only; split <;> simp
theorem titleP_len (s : Str) : (titleP s).2.1.length ≤ s.length := by
  unfold titleP
  split
  · cases e : quoted [] s.tail with
    | none => simp
    | some p =>
      have h1 := quoted_len _ [] s.tail p (Nat.le_refl _) e
      have h2 := cutC_len 33 p.2
      simp at h1 ⊢
      omega
  · cases e : cutAt 33 s with
    | none => simp
    | some p => have := cutAt_len 33 s p e; dsimp only; omega
theorem tw_all (p : UInt8 → Bool) : ∀ s : Str, ∀ c ∈ s.takeWhile p, p c = true
  | [], c, h => by simp at h
  | d :: r, c, h => by
    cases e : p d with
    | false => rw [List.takeWhile_cons, e] at h; simp at h
    | true =>
      rw [List.takeWhile_cons, e] at h
      simp at h
      rcases h with h | h
      · rw [h]; exact e
      · exact tw_all p r c h
theorem place_good (s : Str) (h : (place s).2 = true) : Good (place s).1 := by
  unfold place at h ⊢
  dsimp only at h ⊢
  have hg : goodC (placeC s).1 = true := by
    cases e : goodC (placeC s).1 with
    | true => rfl
    | false => rw [e] at h; simp at h
  unfold goodC at hg
  simp only [Bool.and_eq_true, Bool.not_eq_true', decide_eq_false_iff_not] at hg
  refine ⟨?_, ?_, by omega, by omega⟩
  · unfold allL; rw [List.all_eq_true]; exact tw_all _ _
  · exact tw_all _ _
theorem place_parts (s : Str) (h : (place s).2 = true) : ((place s).1.D.head? == some 48) = false ∧ ((place s).1.L ≠ [] ∨ (place s).1.D ≠ []) := by
  unfold place at h ⊢
  dsimp only at h ⊢
  have hg : goodC (placeC s).1 = true := by
    cases e : goodC (placeC s).1 with
    | true => rfl
    | false => rw [e] at h; simp at h
  unfold goodC at hg
  simp only [Bool.and_eq_true, Bool.not_eq_true', decide_eq_false_iff_not, Bool.or_eq_true] at hg
  obtain ⟨_, _, h3, h4⟩ := hg
  refine ⟨h3, ?_⟩
  rcases h4 with h4 | h4
  · right; simpa using h4
  · left; simpa using h4.1
/-- one side, as the reference reads it -/
structure Side where
  row : Int
  col : Int
  ar : Bool
  ac : Bool
def sRow (D : Str) : Int := if D = [] then -1 else (numD D : Int) - 1
def sCol (L : Str) : Int := if L = [] then -1 else (val26 L : Int) - 1
def bad1 (x : Sid) : Bool := decide (1 < x.m) || (x.m == 1 && x.D.isEmpty)
def bad2 (x : Sid) : Bool := decide (1 < x.n) || (!x.rest.isEmpty || ((x.L.isEmpty && x.D.isEmpty) || (decide (7 < x.L.length) || (decide (10 < x.D.length) || (!x.D.isEmpty && x.D.head? == some 48)))))
def sideV (x : Sid) : Side × Int :=
  if bad1 x = true then (⟨-1, -1, false, !x.L.isEmpty && x.n == 1⟩, 0)
  else if bad2 x = true then (⟨-1, -1, bif x.L.isEmpty then x.n == 1 else x.m == 1, !x.L.isEmpty && x.n == 1⟩, 0)
  else (⟨sRow x.D, sCol x.L, bif x.L.isEmpty then x.n == 1 else x.m == 1, !x.L.isEmpty && x.n == 1⟩, if 1073741824 ≤ sRow x.D ∨ 1073741824 ≤ sCol x.L then 2 else 1)
def sideP (s : Str) : Side × Int := sideV (sideC s)
theorem sideOk_eq (x : Sid) : sideOk x = (!bad1 x && !bad2 x) := rfl
theorem side_no (s : Str) (h : (place s).2 = false) : (sideP s).2 = 0 := by
  have e := (place_side s).1
  rw [h, sideOk_eq] at e
  unfold sideP sideV
  cases h1 : bad1 (sideC s) with
  | true => simp
  | false =>
    rw [h1] at e
    have h2 : bad2 (sideC s) = true := by simpa using e
    simp [h2]
theorem side_yes (s : Str) (h : (place s).2 = true) : sideP s = (⟨sRow (place s).1.D, sCol (place s).1.L, (place s).1.ar, (place s).1.ac⟩, if 1073741824 ≤ sRow (place s).1.D ∨ 1073741824 ≤ sCol (place s).1.L then 2 else 1) := by
  obtain ⟨e, e2⟩ := place_side s
  obtain ⟨a1, a2, a3, a4⟩ := e2 h
  rw [h, sideOk_eq] at e
  have h1 : bad1 (sideC s) = false := by cases q : bad1 (sideC s) <;> simp [q] at e ⊢
  have h2 : bad2 (sideC s) = false := by cases q : bad2 (sideC s) <;> simp [q] at e ⊢
  unfold sideP sideV
  rw [h1, h2, a1, a2, a3, a4]
  simp
theorem sRow_pos (D : Str) (h : D ≠ []) (hd : ∀ d ∈ D, isDigit d = true) (h0 : (D.head? == some 48) = false) : 0 ≤ sRow D ∧ sRow D = (numD D : Int) - 1 := by
  have : 1 ≤ numD D := by
    cases D with
    | nil => exact absurd rfl h
    | cons c r => exact numD_pos c r (hd c (by simp)) (by intro e; subst e; simp at h0)
  unfold sRow; rw [if_neg h]; omega
theorem sCol_pos (L : Str) (h : L ≠ []) (hl : ∀ c ∈ L, isLetter c = true) : 0 ≤ sCol L ∧ sCol L = (val26 L : Int) - 1 := by
  have := val26_ref L h hl
  unfold sCol; rw [if_neg h]; omega
/-- a corner's values and the side's -/
structure Vals (c : Cor) : Prop where
  row0 : decide (sRow c.D < 0) = c.D.isEmpty
  col0 : decide (sCol c.L < 0) = c.L.isEmpty
  big : (1073741824 ≤ sRow c.D ∨ 1073741824 ≤ sCol c.L) → valuesP c = (0, 0, 2)
  fit : ¬ (1073741824 ≤ sRow c.D ∨ 1073741824 ≤ sCol c.L) → valuesP c = (max (sRow c.D) 0, max (sCol c.L) 0, 0)
theorem vals_of (c : Cor) (hg : Good c) (h0 : (c.D.head? == some 48) = false) : Vals c := by
  have hl : ∀ d ∈ c.L, isLetter d = true := by have := hg.letters; unfold allL at this; rwa [List.all_eq_true] at this
  have hd := hg.digits
  obtain ⟨L, D, ac, ar⟩ := c
  dsimp only at *
  by_cases hL : L = [] <;> by_cases hD : D = []
  · subst hL; subst hD
    exact ⟨by simp [sRow], by simp [sCol], by simp [sRow, sCol], fun _ => by simp [sRow, sCol, valuesP, rowOf]; rfl⟩
  · obtain ⟨p1, p2⟩ := sRow_pos D hD hd h0
    subst hL
    have e1 : D.isEmpty = false := by simpa using hD
    refine ⟨by rw [e1]; simp; omega, by simp [sCol], fun h => ?_, fun h => ?_⟩
    · unfold valuesP rowOf; dsimp only; rw [if_neg hD, if_pos (by right; simp [sCol] at h; omega)]
    · unfold valuesP rowOf; dsimp only; rw [if_neg hD, if_neg (by simp; simp [sCol] at h; omega)]; simp [sCol]; omega
  · obtain ⟨p1, p2⟩ := sCol_pos L hL hl
    subst hD
    have e1 : L.isEmpty = false := by simpa using hL
    refine ⟨by simp [sRow], by rw [e1]; simp; omega, fun h => ?_, fun h => ?_⟩
    · unfold valuesP rowOf; dsimp only; rw [if_pos (by left; exact ⟨hL, by simp [sRow] at h; omega⟩)]
    · unfold valuesP rowOf; dsimp only; rw [if_neg (by simp [hL]; simp [sRow] at h; omega), if_neg hL]; simp [sRow]; omega
  · obtain ⟨p1, p2⟩ := sCol_pos L hL hl
    obtain ⟨q1, q2⟩ := sRow_pos D hD hd h0
    have e1 : L.isEmpty = false := by simpa using hL
    have e2 : D.isEmpty = false := by simpa using hD
    refine ⟨by rw [e2]; simp; omega, by rw [e1]; simp; omega, fun h => ?_, fun h => ?_⟩
    · dsimp only at h
      unfold valuesP rowOf; dsimp only
      rw [if_neg hD, if_pos]
      rcases h with h | h
      · right; omega
      · left; exact ⟨hL, by omega⟩
    · dsimp only at h
      unfold valuesP rowOf; dsimp only
      rw [if_neg hD, if_neg (by rintro (⟨_, h'⟩ | h') <;> exact h (by omega)), if_neg hL, ← p2, ← q2, Int.max_eq_left p1, Int.max_eq_left q1]
def synR (two : Bool) (a b : Side × Int) : Bool := !(a.2 == 0 || (b.2 == 0 || ((decide (a.1.row < 0) != decide (b.1.row < 0)) || ((decide (a.1.col < 0) != decide (b.1.col < 0)) || (!two && (decide (a.1.row < 0) || decide (a.1.col < 0)))))))
def kindR (two : Bool) (a : Side) : Int := if two = false then 0 else if a.row < 0 then 3 else if a.col < 0 then 2 else 1
def readR (t : Str) (two : Bool) (a b : Side × Int) : Ref × Int :=
  if synR two a b = false then (zeroR, 10)
  else if a.2 = 2 ∨ b.2 = 2 then (zeroR, 2)
  else doneP ⟨t, kindR two a.1, max a.1.row 0, max a.1.col 0, (bif two then max b.1.row 0 else 0), (bif two then max b.1.col 0 else 0), a.1.ar, a.1.ac, two && b.1.ar, two && b.1.ac⟩
theorem read_same (t : Str) (ok two : Bool) (x y : Str) :
    (if synP ok two (place x) (bif two then place y else ((place x).1, true)) = true then readP t two (place x).1 (bif two then place y else ((place x).1, true)).1 else (zeroR, 10)) = if ok = false then (zeroR, 10) else readR t two (sideP x) (bif two then sideP y else ((sideP x).1, 1)) := by
  cases ok with
  | false => simp [synP]
  | true =>
    simp only [if_neg (show ¬ (true = false) by simp)]
    cases hx : (place x).2 with
    | false =>
      have e := side_no x hx
      unfold readR synR synP
      simp [hx, e]
    | true =>
      have e := side_yes x hx
      have hv := vals_of _ (place_good x hx) (place_parts x hx).1
      have hne := (place_parts x hx).2
      generalize place x = px at *
      obtain ⟨c, okx⟩ := px
      dsimp only at *
      subst hx
      rw [e]
      obtain ⟨v1, v2, v3, v4⟩ := hv
      cases two with
      | false =>
        unfold readR synR synP readP kindR
        dsimp only [cond_false]
        simp only [v1, v2]
        by_cases hb : 1073741824 ≤ sRow c.D ∨ 1073741824 ≤ sCol c.L
        · simp only [if_pos hb, v3 hb]
          cases c.L.isEmpty <;> cases c.D.isEmpty <;> simp
        · simp only [if_neg hb, v4 hb]
          cases c.L.isEmpty <;> cases c.D.isEmpty <;> simp
      | true =>
        dsimp only [cond_true]
        cases hy : (place y).2 with
        | false =>
          have f := side_no y hy
          unfold readR synR synP
          simp [hy, f]
        | true =>
          have f := side_yes y hy
          have hw := vals_of _ (place_good y hy) (place_parts y hy).1
          generalize place y = py at *
          obtain ⟨d, oky⟩ := py
          dsimp only at *
          subst hy
          rw [f]
          obtain ⟨w1, w2, w3, w4⟩ := hw
          have k1 : c.L.isEmpty = true ∧ c.D.isEmpty = true → False := by
            intro ⟨h1, h2⟩
            simp at h1 h2
            rcases hne with h | h
            · exact h h1
            · exact h h2
          have hk : kindR true ⟨sRow c.D, sCol c.L, c.ar, c.ac⟩ = if c.L = [] then 2 else if c.D = [] then 3 else 1 := by
            unfold kindR
            dsimp only
            have r1 : (sRow c.D < 0) = (c.D = []) := propext ⟨fun h => by have := v1; rw [decide_eq_true h] at this; simpa using this.symm, fun h => by have := v1; rw [h] at this ⊢; simpa using this⟩
            have r2 : (sCol c.L < 0) = (c.L = []) := propext ⟨fun h => by have := v2; rw [decide_eq_true h] at this; simpa using this.symm, fun h => by have := v2; rw [h] at this ⊢; simpa using this⟩
            simp only [r1, r2]
            by_cases h1 : c.L = [] <;> by_cases h2 : c.D = [] <;> simp [h1, h2]
            exact k1 ⟨by simp [h1], by simp [h2]⟩
          unfold readR synR synP readP
          rw [hk]
          dsimp only [cond_true]
          simp only [v1, v2, w1, w2]
          clear hk k1 hne e f
          by_cases hb : 1073741824 ≤ sRow c.D ∨ 1073741824 ≤ sCol c.L <;> by_cases hd : 1073741824 ≤ sRow d.D ∨ 1073741824 ≤ sCol d.L
          · simp only [if_pos hb, if_pos hd, v3 hb]
            cases c.L.isEmpty <;> cases c.D.isEmpty <;> cases d.L.isEmpty <;> cases d.D.isEmpty <;> simp
          · simp only [if_pos hb, if_neg hd, v3 hb]
            cases c.L.isEmpty <;> cases c.D.isEmpty <;> cases d.L.isEmpty <;> cases d.D.isEmpty <;> simp
          · simp only [if_neg hb, if_pos hd, v4 hb, w3 hd]
            cases c.L.isEmpty <;> cases c.D.isEmpty <;> cases d.L.isEmpty <;> cases d.D.isEmpty <;> simp
          · simp only [if_neg hb, if_neg hd, v4 hb, w4 hd]
            cases c.L.isEmpty <;> cases c.D.isEmpty <;> cases d.L.isEmpty <;> cases d.D.isEmpty <;> simp
/-- the reference's error of a reference -/
def errP (x : Ref) : Int :=
  if x.k < 0 ∨ 4 < x.k then 8
  else if nameP x.sh ≠ 0 then nameP x.sh
  else if formP x = false then 4
  else if (permP x.r && (permP x.c && (permP x.r2 && permP x.c2))) = false then 2
  else if (1 ≤ x.k ∧ x.k ≤ 3) ∧ (x.r2 < x.r ∨ x.c2 < x.c) then 5
  else 0
theorem err_check (x : Ref) : errP x = checkP x := by
  unfold errP checkP
  by_cases h0 : x.k < 0 ∨ 4 < x.k
  · rw [if_pos h0, if_pos h0]
  rw [if_neg h0, if_neg h0]
  by_cases h1 : nameP x.sh ≠ 0
  · rw [if_pos h1, if_pos h1]
  rw [if_neg h1, if_neg h1]
  by_cases h2 : formP x = false
  · rw [if_pos h2, if_pos h2]
  rw [if_neg h2, if_neg h2]
  by_cases h3 : (permP x.r && (permP x.c && (permP x.r2 && permP x.c2))) = false
  · rw [if_pos h3, if_pos h3]
  rw [if_neg h3, if_neg h3]
  by_cases h4 : x.k = 4
  · have hf : formP x = true := by simpa using h2
    unfold formP firstP secondP thirdP fourthP at hf
    simp [h4] at hf
    rw [if_neg (by omega), if_neg (by omega)]
  · have e : (x.k ≠ 0 ∧ (x.r2 < x.r ∨ x.c2 < x.c)) = ((1 ≤ x.k ∧ x.k ≤ 3) ∧ (x.r2 < x.r ∨ x.c2 < x.c)) := by
      apply propext; constructor
      · rintro ⟨a, b⟩; exact ⟨by omega, b⟩
      · rintro ⟨a, b⟩; exact ⟨by omega, b⟩
    simp only [e]
end Go.Proofs.YtgphgimbnflhfaaDoor.RfP
