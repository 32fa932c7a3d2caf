/- References: what the program and the reference make of a reference whose rows and columns change is one. -/
import Derived.Test.YtgphgimbnflhfaaDoorRfT6
set_option linter.unusedSimpArgs false
set_option linter.unusedVariables false
namespace Go.Proofs.YtgphgimbnflhfaaDoor
open Go.RowKit
open Sym
namespace RfP
theorem hull_facts (a : List Step) (low high : Int) (hok : ∀ s ∈ a, okS s) (h0 : 0 ≤ low) (h1 : high < 1073741824) (hb : (hullP a low high).2.2 = true) : 0 ≤ (hullP a low high).1 ∧ (hullP a low high).1 ≤ (hullP a low high).2.1 ∧ (low = high → (hullP a low high).1 = (hullP a low high).2.1) := by
  have hW : ∀ p : Int, 0 ≤ p → (fun p => whr a p 0) p = whr a (p - 0) 0 := fun p _ => by simp
  have k1 : Sp (fun p => whr a p 0) (fun p => low ≤ p ∧ p ≤ high) (hullP a low high) :=
    hullG_spec (fun p => whr a p 0) low high h1 a 0 0 (0, 0, false) hok (by omega) (by omega) hW (.inl ⟨rfl, rfl, rfl, fun p hp => by omega⟩) (fun h => by cases h)
  generalize hullP a low high = x at *
  obtain ⟨f, l, b⟩ := x
  unfold Sp at k1
  dsimp only at *
  rcases k1 with ⟨e, _⟩ | ⟨_, ⟨p, hp, hp1, hp2⟩, ⟨q, hq, hq1, hq2⟩, h4⟩
  · rw [hb] at e; cases e
  · have h5 := h4 p hp (by omega)
    have h6 := h4 q hq (by omega)
    refine ⟨hp2, by omega, fun e => ?_⟩
    obtain rfl : p = q := by omega
    omega
theorem perm_le {f l : Int} (h0 : 0 ≤ f) (h1 : f ≤ l) (h : permP l = true) : permP f = true := by
  unfold permP at h ⊢
  simp at h ⊢
  omega
theorem thr_same (x : Ref) (R C : List Step) (h : checkP x = 0) (oR : OKL R) (oC : OKL C) : thrP x R C = thrR x R C := by
  obtain ⟨hk, hf, hin, hord⟩ := check_ok x h
  clear h
  obtain ⟨sh, k, a, c, a2, c2, ar, ac, ar2, ac2⟩ := x
  dsimp only at *
  have okR : ∀ s ∈ R, okS s := fun s hs => (oR.ok s hs).1
  have okC : ∀ s ∈ C, okS s := fun s hs => (oC.ok s hs).1
  unfold insideP permP at hin
  simp at hin
  have hk' : k = 0 ∨ k = 1 ∨ k = 2 ∨ k = 3 ∨ k = 4 := by omega
  rcases hk' with rfl | rfl | rfl | rfl | rfl
  · unfold formP firstP secondP thirdP fourthP at hf
    simp at hf
    obtain ⟨⟨rfl, rfl⟩, rfl, rfl⟩ := hf
    unfold thrP thrR
    dsimp only
    have e1 := hull_rest R a a okR (by omega) (by omega) (by omega)
    have e2 := hull_rest C c c okC (by omega) (by omega) (by omega)
    have f1 := hull_facts R a a okR (by omega) (by omega)
    have f2 := hull_facts C c c okC (by omega) (by omega)
    simp only [show ¬ ((0 : Int) = 4) by omega, show ¬ ((0 : Int) = 3) by omega, show ¬ ((0 : Int) = 2) by omega, if_true, if_false, false_or]
    rw [← e1, ← e2]
    generalize hullP R a a = H at *
    generalize hullP C c c = K at *
    obtain ⟨p, q, b⟩ := H
    obtain ⟨p', q', b'⟩ := K
    dsimp only at *
    cases b
    · simp
    · cases b'
      · simp
      · obtain ⟨g1, g2, g3⟩ := f1 rfl
        obtain ⟨g4, g5, g6⟩ := f2 rfl
        obtain rfl := g3 rfl
        obtain rfl := g6 rfl
        simp only [fittingP, meaningP, insideP, if_true, perm0]
        clear e1 e2
        cases h1 : permP p <;> cases h2 : permP p' <;> simp_all
  · have o1 := (hord (by omega)).1
    have o2 := (hord (by omega)).2
    unfold thrP thrR
    dsimp only
    have e1 := hull_rest R a a2 okR (by omega) (by omega) (by omega)
    have e2 := hull_rest C c c2 okC (by omega) (by omega) (by omega)
    have f1 := hull_facts R a a2 okR (by omega) (by omega)
    have f2 := hull_facts C c c2 okC (by omega) (by omega)
    simp only [show ¬ ((1 : Int) = 4) by omega, show ¬ ((1 : Int) = 3) by omega, show ¬ ((1 : Int) = 2) by omega, show ¬ ((1 : Int) = 0) by omega, if_true, if_false, false_or]
    rw [← e1, ← e2]
    generalize hullP R a a2 = H at *
    generalize hullP C c c2 = K at *
    obtain ⟨p, q, b⟩ := H
    obtain ⟨p', q', b'⟩ := K
    dsimp only at *
    cases b
    · simp
    · cases b'
      · simp
      · obtain ⟨g1, g2, g3⟩ := f1 rfl
        obtain ⟨g4, g5, g6⟩ := f2 rfl
        have m1 := perm_le g1 g2
        have m2 := perm_le g4 g5
        simp only [fittingP, meaningP, insideP, show ¬ ((1 : Int) = 4) by omega, show ¬ ((1 : Int) = 3) by omega, show ¬ ((1 : Int) = 2) by omega, show ¬ ((1 : Int) = 0) by omega, if_false]
        clear e1 e2
        cases hp : permP p <;> cases hq : permP q <;> cases hp' : permP p' <;> cases hq' : permP q' <;> simp_all
  · have o1 := (hord (by omega)).1
    unfold formP firstP secondP thirdP fourthP at hf
    simp at hf
    obtain ⟨⟨rfl, rfl⟩, rfl, rfl⟩ := hf
    unfold thrP thrR
    dsimp only
    have e1 := hull_rest R a a2 okR (by omega) (by omega) (by omega)
    have f1 := hull_facts R a a2 okR (by omega) (by omega)
    simp only [show ¬ ((2 : Int) = 4) by omega, show ¬ ((2 : Int) = 3) by omega, show ¬ ((2 : Int) = 0) by omega, if_true, if_false, true_or]
    rw [← e1]
    generalize hullP R a a2 = H at *
    obtain ⟨p, q, b⟩ := H
    dsimp only at *
    cases b
    · simp
    · obtain ⟨g1, g2, g3⟩ := f1 rfl
      have m1 := perm_le g1 g2
      clear e1
      simp only [fittingP, meaningP, insideP, show ¬ ((2 : Int) = 0) by omega, if_true, if_false, perm0]
      cases hp : permP p <;> cases hq : permP q <;> simp_all
  · have o2 := (hord (by omega)).2
    unfold formP firstP secondP thirdP fourthP at hf
    simp at hf
    obtain ⟨⟨rfl, rfl⟩, rfl, rfl⟩ := hf
    unfold thrP thrR
    dsimp only
    have e2 := hull_rest C c c2 okC (by omega) (by omega) (by omega)
    have f2 := hull_facts C c c2 okC (by omega) (by omega)
    simp only [show ¬ ((3 : Int) = 4) by omega, show ¬ ((3 : Int) = 2) by omega, show ¬ ((3 : Int) = 0) by omega, if_true, if_false, false_or]
    rw [← e2]
    generalize hullP C c c2 = H at *
    obtain ⟨p, q, b⟩ := H
    dsimp only at *
    cases b
    · simp
    · obtain ⟨g1, g2, g3⟩ := f2 rfl
      have m1 := perm_le g1 g2
      clear e2
      simp only [fittingP, meaningP, insideP, show ¬ ((3 : Int) = 0) by omega, show ¬ ((3 : Int) = 2) by omega, if_true, if_false, perm0]
      cases hp : permP p <;> cases hq : permP q <;> simp_all
  · unfold thrP thrR; simp
end RfP
end Go.Proofs.YtgphgimbnflhfaaDoor
