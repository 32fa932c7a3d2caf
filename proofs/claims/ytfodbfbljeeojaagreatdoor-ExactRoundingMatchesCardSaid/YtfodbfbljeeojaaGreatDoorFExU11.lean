/- Rounding: what the law asks, in plain numbers. -/
import Derived.Test.YtfodbfbljeeojaaGreatDoorFGX
set_option linter.unusedSimpArgs false
set_option linter.unusedVariables false
namespace Go.Proofs.YtfodbfbljeeojaaGreatDoor
attribute [local irreducible] ExP.nd ExP.dig ExP.upd
namespace ExP
theorem near_div {N d : Nat} (hd : 0 < d) (h : d ∣ N) : (N + N + d) / (d + d) = N / d := by
  obtain ⟨q, rfl⟩ := h
  rw [Nat.mul_div_cancel_left _ hd]
  have e1 : d * q + d * q + d = (2 * q + 1) * d := by rw [Nat.add_mul, Nat.one_mul, Nat.mul_comm d q, ← Nat.add_mul, ← Nat.two_mul]
  have e2 : d + d = 2 * d := by omega
  rw [e1, e2, Nat.mul_div_mul_right _ _ hd]
  omega
/-- the shortest text is the one with so many places -/
theorem short_fixed {V : Num} {a b : Nat} (hd : V.d = 2 ^ a * (5 ^ b * 1)) : fixT (nearN (scaleN V (max a b : Nat))) (max a b) = fixT ⟨V.m, V.n * 10 ^ max a b / V.d, 1⟩ (max a b) := by
  obtain ⟨m, n, d⟩ := V
  dsimp only at hd
  have h0 : 0 < d := by rw [hd]; exact Nat.mul_pos (Nat.pow_pos (by omega)) (Nat.mul_pos (Nat.pow_pos (by omega)) (by omega))
  have h1 : d ∣ n * 10 ^ max a b := by rw [hd]; exact Nat.dvd_trans (pl_dvd a b) (Nat.dvd_mul_left _ _)
  clear hd
  generalize max a b = M at *
  have h2 : scaleN ⟨m, n, d⟩ (M : Int) = ⟨m, n * 10 ^ M, d⟩ := by
    unfold scaleN
    rw [if_neg (by omega), Int.natAbs_natCast]
  rw [h2]
  unfold nearN
  dsimp only
  rw [near_div h0 h1]
end ExP
end Go.Proofs.YtfodbfbljeeojaaGreatDoor
