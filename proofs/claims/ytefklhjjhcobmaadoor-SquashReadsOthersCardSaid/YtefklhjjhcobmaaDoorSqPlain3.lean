/- The codes as texts, plainly. -/
import Derived.Test.YtefklhjjhcobmaaDoorSqPlain2
namespace Go.Proofs.YtefklhjjhcobmaaDoor.SqP
def dig (v : Nat) : UInt8 := if v % 2 = 0 then 48 else 49
def binS : Nat → Nat → List UInt8
  | 0, _ => []
  | n + 1, v => binS n (v / 2) ++ [dig v]
theorem binS_len : ∀ n v, (binS n v).length = n
  | 0, _ => rfl
  | n + 1, v => by simp [binS, binS_len n]
theorem binS_zero : ∀ n, binS n 0 = List.replicate n 48
  | 0 => rfl
  | n + 1 => by
    simp only [binS]
    rw [Nat.zero_div, binS_zero n, List.replicate_succ']; rfl
theorem binS_shift (n v : Nat) : binS (n + 1) (2 * v) = binS n v ++ [48] := by
  simp only [binS]
  rw [show 2 * v / 2 = v from by omega]
  unfold dig; rw [if_pos (by omega)]
theorem dig_inj {a b : Nat} (h : dig a = dig b) : a % 2 = b % 2 := by
  unfold dig at h
  split at h <;> split at h <;> first | omega | (exact absurd h (by decide))
theorem binS_inj : ∀ n v u, v < 2 ^ n → u < 2 ^ n → binS n v = binS n u → v = u
  | 0, v, u, hv, hu, _ => by simp at hv hu; omega
  | n + 1, v, u, hv, hu, h => by
    simp only [binS] at h
    obtain ⟨h1, h2⟩ := List.append_inj h (by rw [binS_len, binS_len])
    rw [Nat.pow_succ] at hv hu
    have := binS_inj n (v / 2) (u / 2) (by omega) (by omega) h1
    have h3 := dig_inj (by simpa using h2)
    omega
/-- v's last j digits are one: the rest, then j zeros, is what the loop holds after j rounds -/
theorem binS_carry (n j v : Nat) (hj : j ≤ n) (hd : v % 2 ^ j = 2 ^ j - 1) : binS n v = binS (n - j) (v / 2 ^ j) ++ List.replicate j 49 := by
  induction j with
  | zero => simp
  | succ j ih =>
    have hpos := Nat.two_pow_pos j
    have e : 2 ^ (j + 1) = 2 * 2 ^ j := by rw [Nat.pow_succ, Nat.mul_comm]
    have hq : v % 2 ^ (j + 1) % 2 ^ j = v % 2 ^ j := Nat.mod_mod_of_dvd v ⟨2, by rw [Nat.pow_succ]⟩
    have hr : v / 2 ^ j % 2 = v % 2 ^ (j + 1) / 2 ^ j := by rw [Nat.pow_succ, Nat.mod_mul_right_div_self]
    rw [hd] at hq hr
    have h1 : v % 2 ^ j = 2 ^ j - 1 := by
      rw [← hq, e, show 2 * 2 ^ j - 1 = (2 ^ j - 1) + 2 ^ j from by omega, Nat.add_mod_right, Nat.mod_eq_of_lt (by omega)]
    have h2 : v / 2 ^ j % 2 = 1 := by
      rw [hr, e, show 2 * 2 ^ j - 1 = (2 ^ j - 1) + 2 ^ j from by omega, Nat.add_div_right _ hpos, Nat.div_eq_of_lt (by omega)]
    rw [ih (by omega) h1, show n - j = (n - (j + 1)) + 1 from by omega]
    simp only [binS]
    rw [Nat.div_div_eq_div_mul, ← Nat.pow_succ, List.append_assoc]
    congr 1
    unfold dig
    rw [if_neg (by omega), List.replicate_succ]; rfl
/-- one more: the ones at the end become zeros, the zero ahead of them a one -/
theorem binS_succ (n j v : Nat) (hj : j < n) (hd : v % 2 ^ j = 2 ^ j - 1) (h0 : v / 2 ^ j % 2 = 0) : binS n (v + 1) = binS (n - j - 1) (v / 2 ^ (j + 1)) ++ 49 :: List.replicate j 48 := by
  have hpos := Nat.two_pow_pos j
  have hdiv : (v + 1) / 2 ^ j = v / 2 ^ j + 1 := by
    have h := Nat.div_add_mod v (2 ^ j)
    rw [hd] at h
    have e : v + 1 = (v / 2 ^ j + 1) * 2 ^ j := by rw [Nat.add_mul, Nat.mul_comm]; omega
    rw [e, Nat.mul_div_cancel _ hpos]
  have hmod : (v + 1) % 2 ^ j = 0 := by
    have h := Nat.div_add_mod v (2 ^ j)
    rw [hd] at h
    have e : v + 1 = (v / 2 ^ j + 1) * 2 ^ j := by rw [Nat.add_mul, Nat.mul_comm]; omega
    rw [e, Nat.mul_mod_left]
  have key : ∀ j n u, j ≤ n → u % 2 ^ j = 0 → binS n u = binS (n - j) (u / 2 ^ j) ++ List.replicate j 48 := by
    intro j
    induction j with
    | zero => intro n u _ _; simp
    | succ j ih =>
      intro n u hjn hu
      have hpos := Nat.two_pow_pos j
      have hm : u % 2 ^ j = 0 := by
        have : u % 2 ^ (j + 1) % 2 ^ j = u % 2 ^ j := Nat.mod_mod_of_dvd u ⟨2, by rw [Nat.pow_succ]⟩
        rw [hu] at this; simpa using this.symm
      have hr : u / 2 ^ j % 2 = 0 := by
        have : u / 2 ^ j % 2 = u % 2 ^ (j + 1) / 2 ^ j := by rw [Nat.pow_succ, Nat.mod_mul_right_div_self]
        rw [hu] at this; simpa using this
      rw [ih n u (by omega) hm, show n - j = (n - (j + 1)) + 1 from by omega]
      simp only [binS]
      rw [Nat.div_div_eq_div_mul, ← Nat.pow_succ, List.append_assoc]
      congr 1
      unfold dig
      rw [if_pos hr, List.replicate_succ]; rfl
  rw [key j n (v + 1) (by omega) hmod, hdiv, show n - j = (n - j - 1) + 1 from by omega]
  simp only [binS, Nat.add_sub_cancel]
  rw [List.append_assoc, show (v / 2 ^ j + 1) / 2 = v / 2 ^ (j + 1) from by rw [Nat.pow_succ, ← Nat.div_div_eq_div_mul]; omega]
  congr 1
  unfold dig
  rw [if_neg (by omega)]; rfl
theorem kr_ca (L : List Nat) : ∀ n, n ≤ 15 → kr L n = ca L n * 2 ^ (15 - n)
  | 0, _ => by simp [kr, ca]
  | n + 1, h => by
    have ih := kr_ca L n (by omega)
    simp only [kr, ca]
    rw [ih, show 15 - n = (15 - (n + 1)) + 1 from by omega, Nat.pow_succ, Nat.add_mul, ← Nat.mul_assoc]
    congr 1
    rw [Nat.mul_comm, ← Nat.mul_assoc]
theorem kr_mono (L : List Nat) (n : Nat) : ∀ k, kr L n ≤ kr L (n + k)
  | 0 => Nat.le_refl _
  | k + 1 => Nat.le_trans (kr_mono L n k) (by rw [← Nat.add_assoc]; simp only [kr]; omega)
theorem pre_mono (L : List Nat) (n k : Nat) : ∀ j, (pre L n k).length ≤ (pre L n (k + j)).length
  | 0 => Nat.le_refl _
  | j + 1 => by
    refine Nat.le_trans (pre_mono L n k j) ?_
    rw [← Nat.add_assoc]
    by_cases h : L.getD (k + j) 0 = n
    · rw [pre_yes _ _ _ h]; simp
    · rw [pre_no _ _ _ h]; omega
theorem kr_over (L : List Nat) (n k : Nat) (hn : 1 ≤ n) (hn2 : n ≤ 15) (hk : k ≤ L.length) : kr L (n - 1) + (pre L n k).length * 2 ^ (15 - n) ≤ kr L 15 := by
  have h1 := kr_mono L n (15 - n)
  rw [show n + (15 - n) = 15 from by omega] at h1
  have h2 : kr L n = kr L (n - 1) + cnt L n * 2 ^ (15 - n) := by
    conv => lhs; rw [show n = (n - 1) + 1 from by omega]
    simp only [kr]; rw [show n - 1 + 1 = n from by omega]
  have h3 := pre_mono L n k (L.length - k)
  rw [show k + (L.length - k) = L.length from by omega] at h3
  have h4 : (pre L n k).length * 2 ^ (15 - n) ≤ cnt L n * 2 ^ (15 - n) := Nat.mul_le_mul_right _ h3
  omega
/-- the code of symbol k as a text -/
def codeT (L : List Nat) (k : Nat) : List UInt8 := if L.getD k 0 = 0 then [] else binS (L.getD k 0) (2 * ca L (L.getD k 0 - 1) + (pre L (L.getD k 0) k).length)
end Go.Proofs.YtefklhjjhcobmaaDoor.SqP
