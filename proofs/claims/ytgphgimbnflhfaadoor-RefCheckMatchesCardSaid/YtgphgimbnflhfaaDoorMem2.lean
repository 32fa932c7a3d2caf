/- A whole block stored cell by cell. -/
import Derived.Test.YtgphgimbnflhfaaDoorMem
set_option linter.unusedSimpArgs false
set_option linter.unusedVariables false
namespace Go.Proofs.YtgphgimbnflhfaaDoor
open Go.RowKit
/-- the cells from i on, stored one by one -/
def setAll (w : World) (b : Nat) : Nat → List Value → World
  | _, [] => w
  | i, v :: r => setAll (w.setCell ⟨b, i, none⟩ v) b (i + 1) r
theorem Row.setAll' {b : Nat} {t : TypeId} : ∀ (vs : List Value) (i : Nat) (w : World) (cs : Array Value), Row w b t cs → i + vs.length = cs.size → Row (setAll w b i vs) b t (cs.toList.take i ++ vs).toArray
  | [], i, w, cs, h, e => by
    have : (cs.toList.take i ++ []).toArray = cs := by
      rw [List.append_nil, List.take_of_length_le (by simp at e; simp; omega)]
    rw [this]; exact h
  | v :: r, i, w, cs, h, e => by
    have h2 := Row.setAll' r (i + 1) (w.setCell ⟨b, i, none⟩ v) _ (h.set i v) (by simp at e ⊢; omega)
    have hi : i < cs.toList.length := by simp at e ⊢; omega
    have : ((cs.setIfInBounds i v).toList.take (i + 1) ++ r) = (cs.toList.take i ++ v :: r) := by
      rw [Array.toList_setIfInBounds, List.take_set, List.take_succ_eq_append_getElem hi, List.set_append_right _ _ (by simp; omega)]
      simp [Nat.min_eq_left (Nat.le_of_lt hi)]
      rw [Nat.min_eq_left (by simp at hi; omega)]; simp
    rw [this] at h2
    exact h2
theorem Row.setAll {b : Nat} {t : TypeId} {w : World} {cs : Array Value} (h : Row w b t cs) (vs : List Value) (e : vs.length = cs.size) : Row (setAll w b 0 vs) b t vs.toArray := by
  have := Row.setAll' vs 0 w cs h (by omega)
  simpa using this
theorem Row.otherAll {b : Nat} {t : TypeId} {c : Nat} {cs : Array Value} (hc : c ≠ b) : ∀ (vs : List Value) (i : Nat) (w : World), Row w c t cs → Row (Go.Proofs.YtgphgimbnflhfaaDoor.setAll w b i vs) c t cs
  | [], _, _, h => h
  | v :: r, i, w, h => Row.otherAll hc r (i + 1) _ (h.other (by dsimp only; omega) v)
theorem Below.setAllB {B b : Nat} (hb : B ≤ b) {a : World} : ∀ (vs : List Value) (i : Nat) (w : World), Below B a w → Below B a (Go.Proofs.YtgphgimbnflhfaaDoor.setAll w b i vs)
  | [], _, _, h => h
  | v :: r, i, w, h => Below.setAllB hb r (i + 1) _ (h.setCell hb v)
end Go.Proofs.YtgphgimbnflhfaaDoor
