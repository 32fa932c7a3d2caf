/- Square roots: what the law asks of them, in plain numbers. -/
import Derived.Test.YtfodbfbljeeojaaGreatDoorFGS
set_option linter.unusedSimpArgs false
set_option linter.unusedVariables false
namespace Go.Proofs.YtfodbfbljeeojaaGreatDoor
attribute [local irreducible] ExP.nd ExP.dig ExP.upd
namespace ExP
/-- a minus sign stands before no zero -/
theorem read_minus {f : Fr} (h : readE f = 0) (hm : (readN f).m = true) : (readN f).n ≠ 0 := by
  have h1 := h
  unfold readE at h1
  split at h1
  · omega
  rename_i hb
  simp only [not_or, Bool.not_eq_false] at hb
  have hne : (cutM f.1).1 ≠ [48] := fun h0 => hb.2.2.2 ⟨h0, hm⟩
  exact Nat.ne_of_gt (val_pos hb.1 hne)
end ExP
end Go.Proofs.YtfodbfbljeeojaaGreatDoor
