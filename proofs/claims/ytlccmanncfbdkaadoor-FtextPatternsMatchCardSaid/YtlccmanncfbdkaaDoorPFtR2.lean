/- Patterns, the reference: a pattern held against a text, by rows of places. -/
import Derived.Test.YtlccmanncfbdkaaDoorPGF
set_option linter.unusedSimpArgs false
set_option linter.unusedVariables false
namespace Go.Proofs.YtlccmanncfbdkaaDoor
open Go.RowKit
open Sym
attribute [local irreducible] Calls Sym.AggEq
def bv (f : Nat → Bool) (n : Nat) : List Value := (List.range n).map fun i => .bool (f i)
theorem bv_get {f : Nat → Bool} {n i : Nat} (h : i < n) : (bv f n)[i]? = some (.bool (f i)) := by simp [bv, h]
theorem bv_ext {f g : Nat → Bool} {n : Nat} (h : ∀ j, j < n → f j = g j) : bv f n = bv g n := by
  unfold bv
  apply List.map_congr_left
  intro j hj
  rw [h j (by simpa using hj)]
theorem bv_set {f : Nat → Bool} {n i : Nat} {b : Bool} : (bv f n).set i (.bool b) = bv (fun j => if j = i then b else f j) n := by
  apply List.ext_getElem?
  intro j
  rw [List.getElem?_set]
  simp only [bv, List.length_map, List.length_range]
  by_cases hj : j < n
  · by_cases e : i = j
    · subst e; simp [hj]
    · have e2 : ¬ j = i := fun h => e h.symm
      simp [hj, e, e2]
  · by_cases e : i = j
    · subst e; simp [hj]
    · simp [hj, e]
theorem bv_zero (n : Nat) : List.replicate n (Value.bool false) = bv (fun _ => false) n := by
  apply List.ext_getElem?
  intro j
  by_cases hj : j < n <;> simp [bv, hj]
theorem boolInfo : (Tryd.prog.info? 4).map (fun i => (i.zero, i.size, i.bytes)) = some (some (.bool false), 1, 1) := by kernel_rfl
/-- some place ahead of i -/
def FtP.sm (f : Nat → Bool) : Nat → Bool
  | 0 => false
  | i + 1 => FtP.sm f i || f i
theorem FtP.sm_upto (f : Nat → Bool) : ∀ i, FtP.sm f (i + 1) = FtP.upto f i
  | 0 => by simp [FtP.sm, FtP.upto]
  | i + 1 => by
    have := FtP.sm_upto f i
    show (FtP.sm f (i + 1) || f (i + 1)) = (FtP.upto f i || f (i + 1))
    rw [this]
def FtP.escB (u : FtP.Str) (r : List FtP.Str) : Bool := decide (u = [126]) && (match r with
  | [] => false
  | v :: _ => FtP.esc v)
theorem FtP.pcs_head (u : FtP.Str) (r : List FtP.Str) : (FtP.escB u r = true ∧ ∃ v r', r = v :: r' ∧ FtP.pcs (u :: r) = .ch v :: FtP.pcs r') ∨ (FtP.escB u r = false ∧ FtP.pcs (u :: r) = FtP.pc1 u :: FtP.pcs r) := by
  cases r with
  | nil => exact .inr ⟨by simp [FtP.escB], rfl⟩
  | cons v r' =>
    by_cases h : u = [126] ∧ FtP.esc v = true
    · refine .inl ⟨by simp [FtP.escB, h.1, h.2], v, r', rfl, ?_⟩
      conv => lhs; unfold FtP.pcs
      rw [if_pos h]
    · refine .inr ⟨?_, ?_⟩
      · show (decide (u = [126]) && FtP.esc v) = false
        by_cases h1 : u = [126]
        · have : ¬ FtP.esc v = true := fun h2 => h ⟨h1, h2⟩
          simpa [h1] using this
        · simp [h1]
      · conv => lhs; unfold FtP.pcs
        rw [if_neg h]
/-- what one part leads to -/
theorem FtP.S_next {l : List FtP.Pc} {cs : List FtP.Str} {k : Nat} {p : FtP.Pc} (hp : l[k]? = some p) (j : Nat) :
    FtP.S l cs (k + 1) j = if p.isMany then FtP.upto (FtP.S l cs k) j else (decide (0 < j) && (FtP.S l cs k (j - 1) && (match cs[j - 1]? with
      | some c => p.fits c
      | none => false))) := by
  have h1 : FtP.manyAt l k = p.isMany := by unfold FtP.manyAt; rw [hp]
  cases hm : p.isMany with
  | true => rw [FtP.S_many (by rw [h1, hm])]; rfl
  | false =>
    have h2 : FtP.manyAt l k = false := by rw [h1, hm]
    cases j with
    | zero => rw [FtP.S_ch0 h2]; rfl
    | succ i =>
      rw [FtP.S_ch h2]
      have : FtP.fitsC l cs k i = (match cs[i]? with | some c => p.fits c | none => false) := by
        unfold FtP.fitsC FtP.fitsAt
        rw [hp]
        cases cs[i]? <;> rfl
      rw [this]; simp
theorem addr_add' (a : Addr) (x y : Nat) : (a.add x).add y = a.add (x + y) := by
  unfold Addr.add
  by_cases hx : x = 0 <;> by_cases hy : y = 0 <;> simp [hx, hy, Nat.add_assoc]
theorem SlAt.rest {A : Option Addr} {u : FtP.Str} {r : List FtP.Str} {C : Nat} {w : World} (h : SlAt A (FtP.sv (u :: r)) w) (hC : r.length + 1 ≤ C) : SlAt (if C = 1 then A else A.map (·.add (1 * 1))) (FtP.sv r) w := by
  by_cases e : C = 1
  · rw [if_pos e]
    have : r = [] := List.eq_nil_of_length_eq_zero (by omega)
    subst this
    exact sl_nil _ _
  · rw [if_neg e]
    intro i v hi
    obtain ⟨ad, h1, h2, h3⟩ := h (i + 1) v (by simpa [FtP.sv] using hi)
    obtain ⟨ad0, rfl⟩ := SlAt.some h (by simp [FtP.sv])
    cases h1
    exact ⟨_, rfl, h2, by show w.cell? ((ad.add (1 * 1)).add i) = some v; rw [addr_add', show 1 * 1 + i = i + 1 by omega]; exact h3⟩
end Go.Proofs.YtlccmanncfbdkaaDoor
