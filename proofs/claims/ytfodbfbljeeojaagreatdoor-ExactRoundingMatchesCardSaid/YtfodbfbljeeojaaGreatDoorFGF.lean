/- Products, quotients, halves and common divisors, digit by digit. Numbers held against each other; rows of digits. The table of types. (by a tool) -/
import Derived.Test.YtfodbfbljeeojaaGreatDoorFGD
import Derived.Test.YtfodbfbljeeojaaGreatDoorFGE
import Derived.Test.YtfodbfbljeeojaaGreatDoorFSz
set_option linter.unusedSimpArgs false
set_option linter.unusedVariables false
namespace Go.Proofs.YtfodbfbljeeojaaGreatDoor
namespace ExP
theorem upd_lt {b V j d N : Nat} (hb : 0 < b) (hd : d < b) (hj : j < N) (hV : V < b ^ N) : upd b V j d < b ^ N := by
  unfold upd
  have h1 : V % b ^ j + d * b ^ j < b ^ (j + 1) := snoc_lt (Nat.mod_lt _ (Nat.pow_pos hb)) hd
  have e : b ^ N = b ^ (N - (j + 1)) * b ^ (j + 1) := by rw [← Nat.pow_add]; congr 1; omega
  have h2 : V / b ^ (j + 1) < b ^ (N - (j + 1)) := Nat.div_lt_of_lt_mul (by rw [Nat.mul_comm, ← e]; exact hV)
  have h3 := Nat.mul_le_mul_right (b ^ (j + 1)) (Nat.succ_le_of_lt h2)
  rw [Nat.succ_mul, ← e] at h3
  omega
theorem upd_zero {b V j d : Nat} (h : V < b ^ j) : upd b V j d = V + d * b ^ j := by
  have := upd_eq b V j d
  rw [dig_zero h] at this
  omega
/-- products, the program's -/
structure TimesI (b x y lb i k c V : Nat) : Prop where
  eq : V + c * b ^ (i + k) = (x % b ^ i) * y + dig b i x * b ^ i * (y % b ^ k)
  lt : V < b ^ (i + lb)
  bit : c < b
theorem times_next {b x y lb i k c V n : Nat} (hb : 2 ≤ b) (h : TimesI b x y lb i k c V) (hk : k < lb) (hn : n = dig b i x * dig b k y + dig b (i + k) V + c) : TimesI b x y lb i (k + 1) (n / b) (upd b V (i + k) (n % b)) := by
  obtain ⟨h1, h2, h3⟩ := h
  refine ⟨?_, upd_lt (by omega) (Nat.mod_lt _ (by omega)) (by omega) h2, ?_⟩
  · have e := upd_eq b V (i + k) (n % b)
    have e1 := Nat.mod_add_div n b
    generalize upd b V (i + k) (n % b) = V' at *
    rw [mod_next]
    have e2 := congrArg (· * b ^ (i + k)) e1
    rw [Nat.add_mul] at e2
    rw [← Nat.add_assoc i k 1, Nat.pow_succ, Nat.mul_add (dig b i x * b ^ i)]
    have e3 : n / b * (b ^ (i + k) * b) = b * (n / b) * b ^ (i + k) := by simp [Nat.mul_comm, Nat.mul_left_comm, Nat.mul_assoc]
    have e4 : dig b i x * b ^ i * (dig b k y * b ^ k) = dig b i x * dig b k y * b ^ (i + k) := by rw [Nat.pow_add]; simp [Nat.mul_comm, Nat.mul_left_comm, Nat.mul_assoc]
    rw [e3, e4]
    rw [hn, Nat.add_mul, Nat.add_mul, ← hn] at e2
    omega
  · have hx := dig_lt (by omega : 0 < b) i x
    have hy := dig_lt (by omega : 0 < b) k y
    have hv := dig_lt (by omega : 0 < b) (i + k) V
    obtain ⟨p, rfl⟩ : ∃ p, b = p + 1 := ⟨b - 1, by omega⟩
    have h4 : dig (p + 1) i x * dig (p + 1) k y ≤ p * p := Nat.mul_le_mul (by omega) (by omega)
    rw [Nat.div_lt_iff_lt_mul (by omega)]
    rw [hn, Nat.add_mul, Nat.mul_add]
    omega
theorem times_row {b x y lb i c V : Nat} (hb : 2 ≤ b) (h : TimesI b x y lb i lb c V) (hy : y < b ^ lb) : upd b V (i + lb) c = (x % b ^ (i + 1)) * y ∧ TimesI b x y lb (i + 1) 0 0 (upd b V (i + lb) c) := by
  obtain ⟨h1, h2, h3⟩ := h
  have e : upd b V (i + lb) c = (x % b ^ (i + 1)) * y := by
    rw [upd_zero h2, h1, Nat.mod_eq_of_lt hy, mod_next, Nat.add_mul]
  refine ⟨e, ?_⟩
  rw [e]
  refine ⟨by simp [Nat.mod_one], ?_, by omega⟩
  have : x % b ^ (i + 1) < b ^ (i + 1) := Nat.mod_lt _ (Nat.pow_pos (by omega))
  rw [Nat.pow_add b (i + 1) lb]
  exact Nat.mul_lt_mul'' this hy
theorem times_start {b x y lb : Nat} (hb : 2 ≤ b) : TimesI b x y lb 0 0 0 0 := ⟨by simp [Nat.mod_one], Nat.pow_pos (by omega), by omega⟩
/-- products, the reference's -/
def mixP (b x y i j : Nat) : Nat := dig b j ((x % b ^ i) * y) + if i ≤ j then dig b i x * dig b (j - i) y else 0
structure CarryI (b x y i k c S : Nat) : Prop where
  eq : S + c * b ^ k = ((x % b ^ i) * y) % b ^ k + dig b i x * b ^ i * (y % b ^ (k - i))
  lt : S < b ^ k
theorem carry_start {b x y i : Nat} (hb : 2 ≤ b) : CarryI b x y i i 0 (((x % b ^ i) * y) % b ^ i) := ⟨by simp [Nat.mod_one], Nat.mod_lt _ (Nat.pow_pos (by omega))⟩
theorem carry_next {b x y i k c S d : Nat} (hb : 2 ≤ b) (h : CarryI b x y i k c S) (hk : i ≤ k) (hd : d = mixP b x y i k + c) : CarryI b x y i (k + 1) (d / b) (S + d % b * b ^ k) := by
  obtain ⟨h1, h2⟩ := h
  refine ⟨?_, snoc_lt h2 (Nat.mod_lt _ (by omega))⟩
  have e1 := Nat.mod_add_div d b
  have e2 := congrArg (· * b ^ k) e1
  rw [Nat.add_mul] at e2
  have ek : k + 1 - i = (k - i) + 1 := by omega
  rw [mod_next, ek, mod_next, Nat.mul_add (dig b i x * b ^ i), Nat.pow_succ]
  have e3 : d / b * (b ^ k * b) = b * (d / b) * b ^ k := by simp [Nat.mul_comm, Nat.mul_left_comm, Nat.mul_assoc]
  have e4 : dig b i x * b ^ i * (dig b (k - i) y * b ^ (k - i)) = dig b i x * dig b (k - i) y * b ^ k := by
    have : b ^ k = b ^ i * b ^ (k - i) := by rw [← Nat.pow_add]; congr 1; omega
    rw [this]; simp [Nat.mul_comm, Nat.mul_left_comm, Nat.mul_assoc]
  rw [e3, e4]
  unfold mixP at hd
  rw [if_pos hk] at hd
  have e5 : d * b ^ k = dig b k (x % b ^ i * y) * b ^ k + dig b i x * dig b (k - i) y * b ^ k + c * b ^ k := by rw [hd, Nat.add_mul, Nat.add_mul]
  omega
theorem carry_end {b x y i N c S : Nat} (hb : 2 ≤ b) (h : CarryI b x y i N c S) (hN : (x % b ^ (i + 1)) * y < b ^ N) (hi : i ≤ N) (hy : y < b ^ (N - i)) : S = (x % b ^ (i + 1)) * y ∧ c = 0 := by
  obtain ⟨h1, h2⟩ := h
  have hm : (x % b ^ i) * y ≤ (x % b ^ (i + 1)) * y := Nat.mul_le_mul_right _ (by rw [mod_next]; omega)
  rw [Nat.mod_eq_of_lt (by omega : (x % b ^ i) * y < b ^ N), Nat.mod_eq_of_lt hy, ← Nat.add_mul, ← mod_next] at h1
  have hc : c = 0 := by
    rcases Nat.eq_zero_or_pos c with h0 | h0
    · exact h0
    · have := Nat.le_mul_of_pos_left (b ^ N) h0; omega
  subst hc
  omega
/-- quotients -/
theorem cons_dg {b r d : Nat} (hb : 0 < b) (hd : d < b) (n : Nat) : dgN b (n + 1) (d + r * b) = d :: dgN b n r := by
  apply List.ext_getElem?
  intro i
  have hl : d < b ^ 1 := by simpa using hd
  have e : ∀ k, dig b k (d + r * b) = if k < 1 then dig b k d else dig b (k - 1) r := fun k => by have := dig_add hb hl (m := r) k; simpa using this
  cases i with
  | zero =>
    rw [dgN_get _ _ _ _ (by omega), e, if_pos (by omega)]
    simp [dig, Nat.mod_eq_of_lt hd]
  | succ i =>
    rw [List.getElem?_cons_succ]
    by_cases h : i < n
    · rw [dgN_get _ _ _ _ (by omega), dgN_get _ _ _ _ h, e, if_neg (by omega)]; rfl
    · rw [List.getElem?_eq_none (by rw [dgN_len]; omega), List.getElem?_eq_none (by rw [dgN_len]; omega)]
theorem cons_lt {b r d n : Nat} (hd : d < b) (hr : r < b ^ n) : d + r * b < b ^ (n + 1) := by
  rw [Nat.pow_succ]
  have := Nat.mul_le_mul_right b (Nat.succ_le_of_lt hr)
  rw [Nat.succ_mul] at this
  omega
theorem div_pow (b x i : Nat) : x / b ^ i = x / b ^ (i + 1) * b + dig b i x := by
  unfold dig
  have := Nat.div_add_mod (x / b ^ i) b
  rw [Nat.div_div_eq_div_mul, ← Nat.pow_succ, Nat.mul_comm, Nat.succ_eq_add_one] at this
  omega
theorem div_step {m X X1 b d : Nat} (h : X = X1 * b + d) : X / m = X1 / m * b + (d + X1 % m * b) / m ∧ X % m = (d + X1 % m * b) % m := by
  have e : X = (d + X1 % m * b) + X1 / m * b * m := by
    have := Nat.div_add_mod X1 m
    have e2 := congrArg (· * b) this
    rw [Nat.add_mul] at e2
    have : X1 / m * b * m = m * (X1 / m) * b := by simp [Nat.mul_comm, Nat.mul_left_comm, Nat.mul_assoc]
    omega
  rcases Nat.eq_zero_or_pos m with h0 | h0
  · subst h0; simp; rw [h]; omega
  · constructor
    · rw [e, Nat.add_mul_div_right _ _ h0]; omega
    · rw [e, Nat.add_mul_mod_self_right]
theorem quot_lt {m r b d : Nat} (hr : r < m) (hd : d < b) : (d + r * b) / m < b := by
  rw [Nat.div_lt_iff_lt_mul (by omega)]
  have := Nat.mul_le_mul_right b (Nat.succ_le_of_lt hr)
  rw [Nat.succ_mul] at this
  rw [Nat.mul_comm b m]
  omega
/-- the quotient's digits from i on -/
structure DivI (b x m i V r : Nat) : Prop where
  v : V = x / b ^ i / m * b ^ i
  r : r = x / b ^ i % m
theorem div_start {b x m N : Nat} (h : x < b ^ N) : DivI b x m N 0 0 := ⟨by rw [Nat.div_eq_of_lt h]; simp, by rw [Nat.div_eq_of_lt h]; simp⟩
theorem mul_pow_dig {b Q i : Nat} (hb : 2 ≤ b) : dig b i (Q * b ^ (i + 1)) = 0 := by
  unfold dig
  rw [Nat.pow_succ, ← Nat.mul_assoc, Nat.mul_right_comm, Nat.mul_div_cancel _ (Nat.pow_pos (by omega))]
  simp
theorem div_next {b x m i V r q : Nat} (hb : 2 ≤ b) (hm : 0 < m) (h : DivI b x m (i + 1) V r) (hq : q = (dig b i x + r * b) / m) : DivI b x m i (upd b V i q) ((dig b i x + r * b) % m) ∧ q < b := by
  obtain ⟨h1, h2⟩ := h
  have hr : r < m := by rw [h2]; exact Nat.mod_lt _ hm
  have hd := dig_lt (by omega : 0 < b) i x
  obtain ⟨s1, s2⟩ := div_step (m := m) (div_pow b x i)
  rw [← h2] at s1 s2
  refine ⟨⟨?_, s2.symm⟩, by rw [hq]; exact quot_lt hr hd⟩
  have e := upd_eq b V i q
  have e0 : dig b i V = 0 := by rw [h1]; exact mul_pow_dig hb
  rw [e0] at e
  rw [s1, ← hq, Nat.add_mul]
  have : x / b ^ (i + 1) / m * b * b ^ i = V := by rw [h1, Nat.pow_succ]; simp [Nat.mul_comm, Nat.mul_left_comm, Nat.mul_assoc]
  omega
theorem div_end {b x m V r : Nat} (h : DivI b x m 0 V r) : V = x / m ∧ r = x % m := by
  obtain ⟨h1, h2⟩ := h
  simpa using And.intro h1 h2
theorem div_lt {b x m i V r N : Nat} (hb : 0 < b) (h : DivI b x m i V r) (hx : x < b ^ N) : V < b ^ N := by
  obtain ⟨h1, -⟩ := h
  have h2 : x / b ^ i / m * b ^ i ≤ x := Nat.le_trans (Nat.mul_le_mul_right _ (Nat.div_le_self _ _)) (Nat.div_mul_le_self _ _)
  omega
/-- a digit guessed from the leading ones -/
theorem guess_low {b r y k : Nat} : r / b ^ k / (y / b ^ k + 1) ≤ r / y ∨ y = 0 := by
  rcases Nat.eq_zero_or_pos y with h0 | h0
  · exact .inr h0
  left
  rw [Nat.le_div_iff_mul_le h0]
  rcases Nat.eq_zero_or_pos (b ^ k) with hp | hp
  · rw [hp]; simp
  have h1 : y < (y / b ^ k + 1) * b ^ k := by
    have := Nat.lt_mul_div_succ y hp
    rw [Nat.mul_comm]; exact this
  generalize ht : r / b ^ k / (y / b ^ k + 1) = t
  have h2 : t * (y / b ^ k + 1) ≤ r / b ^ k := by rw [← ht]; exact Nat.div_mul_le_self _ _
  calc t * y ≤ t * ((y / b ^ k + 1) * b ^ k) := Nat.mul_le_mul_left _ (by omega)
    _ = t * (y / b ^ k + 1) * b ^ k := by rw [Nat.mul_assoc]
    _ ≤ r / b ^ k * b ^ k := Nat.mul_le_mul_right _ h2
    _ ≤ r := Nat.div_mul_le_self _ _
theorem guess_top {b r y k : Nat} (hp : 0 < b ^ k) (hy : 0 < y / b ^ k) : r / y ≤ r / b ^ k / (y / b ^ k) := by
  rw [Nat.le_div_iff_mul_le hy, Nat.le_div_iff_mul_le hp]
  calc r / y * (y / b ^ k) * b ^ k = r / y * (y / b ^ k * b ^ k) := by rw [Nat.mul_assoc]
    _ ≤ r / y * y := Nat.mul_le_mul_left _ (Nat.div_mul_le_self _ _)
    _ ≤ r := Nat.div_mul_le_self _ _
theorem lead {b y : Nat} (hb : 2 ≤ b) (hy : 0 < y) : dig b (nd b y - 1) y = y / b ^ (nd b y - 1) ∧ 0 < y / b ^ (nd b y - 1) := by
  have h0 := (nd_pos hb).2 hy
  have h1 := nd_lt hb y
  have e : nd b y = nd b y - 1 + 1 := by omega
  constructor
  · unfold dig
    apply Nat.mod_eq_of_lt
    apply Nat.div_lt_of_lt_mul
    rw [← Nat.pow_succ, Nat.succ_eq_add_one, ← e]; exact h1
  · exact Nat.div_pos (le_of_nd hb (by omega)) (Nat.pow_pos (by omega))
theorem odd_cop {g : Nat} (h : ¬ 2 ∣ g) : Nat.Coprime g 2 := by
  have h1 : Nat.gcd g 2 ∣ 2 := Nat.gcd_dvd_right _ _
  have h2 := Nat.le_of_dvd (by omega) h1
  have h3 : 0 < Nat.gcd g 2 := Nat.pos_of_dvd_of_pos h1 (by omega)
  have h4 : Nat.gcd g 2 ≠ 2 := fun e => h (by rw [← e]; exact Nat.gcd_dvd_left _ _)
  unfold Nat.Coprime
  omega
theorem gcd_half {n m : Nat} (h : ¬ 2 ∣ Nat.gcd (2 * n) m) : Nat.gcd n m = Nat.gcd (2 * n) m := by
  apply Nat.dvd_antisymm
  · exact Nat.dvd_gcd (Nat.dvd_trans (Nat.gcd_dvd_left _ _) (Nat.dvd_mul_left _ _)) (Nat.gcd_dvd_right _ _)
  · exact Nat.dvd_gcd ((odd_cop h).dvd_of_dvd_mul_left (Nat.gcd_dvd_left _ _)) (Nat.gcd_dvd_right _ _)
theorem gcd_half' {n m : Nat} (h : ¬ 2 ∣ Nat.gcd m (2 * n)) : Nat.gcd m n = Nat.gcd m (2 * n) := by
  rw [Nat.gcd_comm m n, Nat.gcd_comm m (2 * n)]
  exact gcd_half (by rw [Nat.gcd_comm]; exact h)
end ExP
end Go.Proofs.YtfodbfbljeeojaaGreatDoor
namespace Go.Proofs.YtfodbfbljeeojaaGreatDoor
open Sym
namespace ExP
def cmpN (b x y : Nat) : Int := if nd b x ≠ nd b y then (nd b x : Int) - nd b y else if x < y then -1 else if y < x then 1 else 0
theorem cmp_neg {b x y : Nat} (hb : 2 ≤ b) : cmpN b x y < 0 ↔ x < y := by
  unfold cmpN
  split
  · rename_i h
    constructor
    · intro h1; exact nd_less hb (by omega)
    · intro h1
      rcases Nat.lt_or_ge (nd b x) (nd b y) with h2 | h2
      · omega
      · have := nd_less hb (x := y) (y := x) (by omega); omega
  · split
    · simp [*]
    · split <;> simp [*]
theorem cmp_zero {b x y : Nat} (hb : 2 ≤ b) : cmpN b x y = 0 ↔ x = y := by
  unfold cmpN
  split
  · rename_i h
    constructor
    · intro h1; omega
    · rintro rfl; exact absurd rfl h
  · split
    · constructor <;> intro h <;> omega
    · split
      · constructor <;> intro h <;> omega
      · constructor <;> intro h <;> omega
theorem cmp_sgn (b : Nat) {x y : Nat} (hb : 2 ≤ b) : (0 ≤ cmpN b x y ↔ y ≤ x) ∧ (0 < cmpN b x y ↔ y < x) ∧ (cmpN b x y ≤ 0 ↔ x ≤ y) := by
  have h1 := cmp_neg hb (x := x) (y := y)
  have h2 := cmp_zero hb (x := x) (y := y)
  omega
theorem cmp_top {b x y j : Nat} (hb : 2 ≤ b) (hn : nd b x = nd b y) (h : x / b ^ (j + 1) = y / b ^ (j + 1)) (hd : dig b j x ≠ dig b j y) : cmpN b x y = if dig b j x < dig b j y then -1 else 1 := by
  unfold cmpN
  rw [if_neg (by omega)]
  rcases Nat.lt_or_ge (dig b j x) (dig b j y) with h1 | h1
  · have := cmp_less (b := b) (by omega) h h1
    rw [if_pos this, if_pos h1]
  · have := cmp_less (b := b) (by omega) h.symm (by omega : dig b j y < dig b j x)
    rw [if_neg (by omega), if_pos this, if_neg (by omega)]
theorem cmp_same {b x y : Nat} (h : x / b ^ 0 = y / b ^ 0) : cmpN b x y = 0 := by
  simp only [Nat.pow_zero, Nat.div_one] at h
  subst h
  unfold cmpN
  simp
theorem one_iff {b x : Nat} (hb : 2 ≤ b) : x = 1 ↔ (nd b x = 1 ∧ dig b 0 x = 1) := by
  constructor
  · rintro rfl
    exact ⟨nd_eq hb (by simp; omega) (.inr (by simp)), by simp [dig, Nat.mod_eq_of_lt (show 1 < b by omega)]⟩
  · rintro ⟨h1, h2⟩
    have h3 := nd_lt hb x
    rw [h1, Nat.pow_one] at h3
    simp only [dig, Nat.pow_zero, Nat.div_one, Nat.mod_eq_of_lt h3] at h2
    exact h2
theorem row_snoc {k : IntKind} {b i S d : Nat} {v : Int} (hb : 0 < b) (hS : S < b ^ i) (hd : d < b) (hv : v = (d : Int)) : valsK k (dgN b i S) ++ [.int k v] = valsK k (dgN b (i + 1) (S + d * b ^ i)) := by
  rw [dgN_snoc hb hS hd, valsK_append, hv]; rfl
theorem dig_big {b i x : Nat} (hb : 2 ≤ b) (h : nd b x ≤ i) : dig b i x = 0 := dig_zero (lt_pow_mono (by omega) (nd_lt hb x) h)
theorem plus_over {b x y i c S : Nat} (hb : 2 ≤ b) (h : PlusI b x y i c S) (h1 : nd b x < i) (h2 : nd b y < i) : c = 0 := by
  obtain ⟨e, l, -⟩ := h
  have hx := lt_pow_mono (by omega : 0 < b) (nd_lt hb x) (show nd b x ≤ i - 1 by omega)
  have hy := lt_pow_mono (by omega : 0 < b) (nd_lt hb y) (show nd b y ≤ i - 1 by omega)
  have hp : 2 * b ^ (i - 1) ≤ b ^ i := by
    have : b ^ i = b ^ (i - 1) * b := by rw [← Nat.pow_succ]; congr 1; omega
    rw [this, Nat.mul_comm]; exact Nat.mul_le_mul_left _ hb
  rw [Nat.mod_eq_of_lt (by omega), Nat.mod_eq_of_lt (by omega)] at e
  rcases Nat.eq_zero_or_pos c with h0 | h0
  · exact h0
  · have := Nat.le_mul_of_pos_left (b ^ i) h0; omega
/-- the lower digits of one number, the upper ones of another -/
def mixD (b n i D x : Nat) : List Nat := tab n (fun j => if j < i then dig b j D else dig b j x)
theorem mix_zero (b n D x : Nat) : mixD b n 0 D x = dgN b n x := by unfold mixD dgN; exact tab_congr fun k _ => by simp
theorem mix_all (b n D x : Nat) : mixD b n n D x = dgN b n D := by unfold mixD dgN; exact tab_congr fun k hk => by rw [if_pos hk]
theorem mix_set {b n i D x d : Nat} (hb : 0 < b) (hD : D < b ^ i) (hd : d < b) : (mixD b n i D x).set i d = mixD b n (i + 1) (D + d * b ^ i) x := by
  unfold mixD
  rw [tab_set]
  apply tab_congr
  intro k hk
  have e := dig_add hb hD (m := d) k
  by_cases h1 : k < i
  · rw [if_neg (by omega), if_pos h1, if_pos (by omega), e, if_pos h1]
  · by_cases h2 : k = i
    · subst h2
      rw [if_pos rfl, if_pos (by omega), e, if_neg h1, Nat.sub_self]
      simp [dig, Nat.mod_eq_of_lt hd]
    · rw [if_neg h2, if_neg h1, if_neg (by omega)]
theorem mix_get {b n i D x : Nat} (h : i < n) : (mixD b n i D x)[i]? = some (dig b i x) := by
  unfold mixD; rw [tab_get _ _ _ h, if_neg (by omega)]
theorem mix_len (b n i D x : Nat) : (mixD b n i D x).length = n := tab_len _ _
theorem lead_lt {b r y : Nat} (hb : 2 ≤ b) (hy : 0 < y) (h : r < y * b) : r / b ^ (nd b y - 1) < b * b := by
  have h0 := (nd_pos hb).2 hy
  have h1 := nd_lt hb y
  have e : nd b y = nd b y - 1 + 1 := by omega
  rw [e, Nat.pow_succ] at h1
  apply Nat.div_lt_of_lt_mul
  have h2 : y * b < b ^ (nd b y - 1) * b * b := by rw [Nat.mul_lt_mul_right (by omega)]; exact h1
  rw [Nat.mul_assoc] at h2
  omega
theorem nd_mono {b x y : Nat} (hb : 2 ≤ b) (h : x ≤ y) : nd b x ≤ nd b y := by
  rcases Nat.lt_or_ge (nd b y) (nd b x) with h1 | h1
  · have := nd_less hb h1; omega
  · exact h1
theorem dg_one {b d : Nat} (hb : 2 ≤ b) (hd : d < b) : nd b d ≤ 1 := nd_le hb (by simpa using hd)
theorem dig_self {b d : Nat} (hd : d < b) : dgN b 1 d = [d] := by simp [dgN, tab, dig, Nat.mod_eq_of_lt hd]
theorem nd_mul {b x y : Nat} (hb : 2 ≤ b) : nd b (x * y) ≤ nd b x + nd b y := nd_le hb (by rw [Nat.pow_add]; exact Nat.mul_lt_mul'' (nd_lt hb x) (nd_lt hb y))
end ExP
end Go.Proofs.YtfodbfbljeeojaaGreatDoor
namespace Go.Proofs.YtfodbfbljeeojaaGreatDoor
open Go.RowKit
namespace Sym
def env : Env := [(1, ⟨.other, 1, false, [.any (Go.Value.nilFunc)]⟩),
  (2, ⟨.int .i64, 1, false, [.int .i64 0]⟩),
  (3, ⟨.int .i64, 1, false, [.int .i64 0]⟩),
  (4, ⟨.bool, 1, false, [.lit false]⟩),
  (5, ⟨.int .u8, 1, false, [.int .u8 0]⟩),
  (6, ⟨.int .u8, 1, false, [.int .u8 0]⟩),
  (7, ⟨.struct [(0, 2), (1, 3), (2, 4), (3, 6)], 4, true, [.int .i64 0, .int .i64 0, .lit false, .int .u8 0]⟩),
  (8, ⟨.struct [(0, 2), (1, 3), (2, 4), (3, 6)], 4, true, [.int .i64 0, .int .i64 0, .lit false, .int .u8 0]⟩),
  (9, ⟨.str, 1, false, [.str []]⟩),
  (10, ⟨.str, 1, false, [.str []]⟩),
  (11, ⟨.str, 1, false, [.str []]⟩),
  (12, ⟨.int .u64, 1, false, [.int .u64 0]⟩),
  (13, ⟨.struct [(0, 9), (1, 12)], 2, true, [.str [], .int .u64 0]⟩),
  (14, ⟨.struct [(0, 9), (1, 12)], 2, true, [.str [], .int .u64 0]⟩),
  (15, ⟨.other, 1, false, [.any (Go.Value.pointer none)]⟩),
  (16, ⟨.other, 1, false, [.any (Go.Value.pointer none)]⟩),
  (17, ⟨.other, 1, false, [.any (Go.Value.pointer none)]⟩),
  (18, ⟨.struct [(0, 17)], 1, true, [.any (Go.Value.pointer none)]⟩),
  (19, ⟨.struct [(0, 17)], 1, true, [.any (Go.Value.pointer none)]⟩),
  (20, ⟨.other, 1, false, [.any (Go.Value.nilIface)]⟩),
  (21, ⟨.int .i32, 1, false, [.int .i32 0]⟩),
  (22, ⟨.struct [(0, 9), (1, 9)], 2, true, [.str [], .str []]⟩),
  (23, ⟨.struct [(0, 9), (1, 9)], 2, true, [.str [], .str []]⟩),
  (24, ⟨.other, 1, false, [.any (Go.Value.nilFunc)]⟩),
  (25, ⟨.int .i64, 1, false, [.int .i64 0]⟩),
  (27, ⟨.other, 1, false, [.any (Go.Value.nilFunc)]⟩),
  (29, ⟨.other, 1, false, [.any (Go.Value.nilFunc)]⟩),
  (30, ⟨.other, 1, false, [.any (Go.Value.nilFunc)]⟩),
  (31, ⟨.other, 1, false, [.any (Go.Value.nilFunc)]⟩),
  (32, ⟨.other, 1, false, [.any (Go.Value.nilFunc)]⟩),
  (33, ⟨.slice 3, 1, false, [.any (Go.Value.slice none 0 0)]⟩),
  (34, ⟨.slice 3, 1, false, [.any (Go.Value.slice none 0 0)]⟩),
  (35, ⟨.struct [(0, 4), (1, 34), (2, 34)], 3, true, [.lit false, .any (Go.Value.slice none 0 0), .any (Go.Value.slice none 0 0)]⟩),
  (36, ⟨.struct [(0, 4), (1, 34), (2, 34)], 3, true, [.lit false, .any (Go.Value.slice none 0 0), .any (Go.Value.slice none 0 0)]⟩),
  (37, ⟨.other, 1, false, [.any (Go.Value.nilFunc)]⟩),
  (38, ⟨.other, 1, false, [.any (Go.Value.nilFunc)]⟩),
  (39, ⟨.other, 1, false, [.any (Go.Value.nilFunc)]⟩),
  (40, ⟨.other, 1, false, [.any (Go.Value.nilFunc)]⟩),
  (41, ⟨.other, 1, false, [.any (Go.Value.nilFunc)]⟩),
  (42, ⟨.other, 1, false, [.any (Go.Value.nilFunc)]⟩),
  (43, ⟨.other, 1, false, [.any (Go.Value.nilFunc)]⟩),
  (44, ⟨.other, 1, false, [.any (Go.Value.nilFunc)]⟩),
  (45, ⟨.other, 1, false, [.any (Go.Value.nilFunc)]⟩),
  (46, ⟨.other, 1, false, [.any (Go.Value.nilFunc)]⟩),
  (47, ⟨.other, 1, false, [.any (Go.Value.nilFunc)]⟩),
  (48, ⟨.other, 1, false, [.any (Go.Value.nilFunc)]⟩),
  (49, ⟨.other, 1, false, [.any (Go.Value.nilFunc)]⟩),
  (50, ⟨.other, 1, false, [.any (Go.Value.nilFunc)]⟩),
  (51, ⟨.other, 1, false, [.any (Go.Value.nilFunc)]⟩),
  (52, ⟨.other, 1, false, [.any (Go.Value.nilFunc)]⟩),
  (54, ⟨.other, 1, false, [.any (Go.Value.nilFunc)]⟩),
  (55, ⟨.other, 1, false, [.any (Go.Value.nilFunc)]⟩),
  (57, ⟨.other, 1, false, [.any (Go.Value.nilFunc)]⟩),
  (59, ⟨.other, 1, false, [.any (Go.Value.nilFunc)]⟩),
  (61, ⟨.other, 1, false, [.any (Go.Value.nilFunc)]⟩),
  (63, ⟨.other, 1, false, [.any (Go.Value.nilFunc)]⟩),
  (64, ⟨.other, 1, false, [.any (Go.Value.nilFunc)]⟩),
  (65, ⟨.other, 1, false, [.any (Go.Value.nilFunc)]⟩),
  (66, ⟨.slice 97, 1, false, [.any (Go.Value.slice none 0 0)]⟩),
  (67, ⟨.slice 97, 1, false, [.any (Go.Value.slice none 0 0)]⟩),
  (68, ⟨.struct [(0, 4), (1, 67), (2, 67)], 3, true, [.lit false, .any (Go.Value.slice none 0 0), .any (Go.Value.slice none 0 0)]⟩),
  (69, ⟨.struct [(0, 4), (1, 67), (2, 67)], 3, true, [.lit false, .any (Go.Value.slice none 0 0), .any (Go.Value.slice none 0 0)]⟩),
  (70, ⟨.other, 1, false, [.any (Go.Value.nilFunc)]⟩),
  (71, ⟨.other, 1, false, [.any (Go.Value.nilFunc)]⟩),
  (72, ⟨.other, 1, false, [.any (Go.Value.nilFunc)]⟩),
  (74, ⟨.other, 1, false, [.any (Go.Value.nilFunc)]⟩),
  (76, ⟨.other, 1, false, [.any (Go.Value.nilFunc)]⟩),
  (77, ⟨.other, 1, false, [.any (Go.Value.nilFunc)]⟩),
  (78, ⟨.other, 1, false, [.any (Go.Value.nilFunc)]⟩),
  (79, ⟨.other, 1, false, [.any (Go.Value.nilFunc)]⟩),
  (80, ⟨.other, 1, false, [.any (Go.Value.nilFunc)]⟩),
  (81, ⟨.other, 1, false, [.any (Go.Value.nilFunc)]⟩),
  (82, ⟨.other, 1, false, [.any (Go.Value.nilFunc)]⟩),
  (84, ⟨.other, 1, false, [.any (Go.Value.nilFunc)]⟩),
  (85, ⟨.other, 1, false, [.any (Go.Value.nilFunc)]⟩),
  (87, ⟨.other, 1, false, [.any (Go.Value.nilFunc)]⟩),
  (89, ⟨.other, 1, false, [.any (Go.Value.nilFunc)]⟩),
  (90, ⟨.other, 1, false, [.any (Go.Value.nilFunc)]⟩),
  (91, ⟨.other, 1, false, [.any (Go.Value.nilFunc)]⟩),
  (93, ⟨.other, 1, false, [.any (Go.Value.nilFunc)]⟩),
  (95, ⟨.other, 1, false, [.any (Go.Value.nilFunc)]⟩),
  (96, ⟨.other, 1, false, [.any (Go.Value.nilFunc)]⟩),
  (97, ⟨.int .u32, 1, false, [.int .u32 0]⟩),
  (98, ⟨.other, 1, false, [.any (Go.Value.nilFunc)]⟩),
  (99, ⟨.other, 1, false, [.any (Go.Value.nilFunc)]⟩),
  (100, ⟨.other, 1, false, [.any (Go.Value.nilFunc)]⟩),
  (101, ⟨.other, 1, false, [.any (Go.Value.nilFunc)]⟩),
  (102, ⟨.other, 1, false, [.any (Go.Value.nilFunc)]⟩),
  (103, ⟨.other, 1, false, [.any (Go.Value.nilFunc)]⟩),
  (104, ⟨.other, 1, false, [.any (Go.Value.nilFunc)]⟩),
  (105, ⟨.other, 1, false, [.any (Go.Value.nilIface)]⟩),
  (106, ⟨.other, 1, false, [.any (Go.Value.nilIface)]⟩),
  (108, ⟨.other, 1, false, [.any (Go.Value.nilFunc)]⟩),
  (109, ⟨.other, 1, false, [.any (Go.Value.nilFunc)]⟩),
  (110, ⟨.slice 5, 1, false, [.any (Go.Value.slice none 0 0)]⟩),
  (111, ⟨.other, 1, false, [.any (Go.Value.nilFunc)]⟩),
  (112, ⟨.other, 1, false, [.any (Go.Value.nilFunc)]⟩),
  (113, ⟨.int .u64, 1, false, [.int .u64 0]⟩),
  (114, ⟨.other, 1, false, [.any (Go.Value.nilFunc)]⟩),
  (115, ⟨.other, 1, false, [.any (Go.Value.nilFunc)]⟩),
  (116, ⟨.other, 1, false, [.any (Go.Value.nilFunc)]⟩),
  (117, ⟨.other, 1, false, [.any (Go.Value.nilFunc)]⟩),
  (118, ⟨.other, 1, false, [.any (Go.Value.nilFunc)]⟩),
  (119, ⟨.other, 1, false, [.any (Go.Value.nilFunc)]⟩)]
theorem env_ok : EnvOK Tryz.prog env := ⟨⟨Tryz.sizeOf1, Tryz.isAgg1, fun w => ⟨_, Tryz.zeroValue1 w, fun _ => rfl, ⟨rfl, trivial⟩⟩, trivial⟩,
  ⟨Tryz.sizeOf2, Tryz.isAgg2, fun w => ⟨_, Tryz.zeroValue2 w, fun _ => rfl, ⟨trivial, trivial⟩⟩, Tryz.underlying2⟩,
  ⟨Tryz.sizeOf3, Tryz.isAgg3, fun w => ⟨_, Tryz.zeroValue3 w, fun _ => rfl, ⟨trivial, trivial⟩⟩, Tryz.underlying3⟩,
  ⟨Tryz.sizeOf4, Tryz.isAgg4, fun w => ⟨_, Tryz.zeroValue4 w, fun _ => rfl, ⟨trivial, trivial⟩⟩, Tryz.underlying4⟩,
  ⟨Tryz.sizeOf5, Tryz.isAgg5, fun w => ⟨_, Tryz.zeroValue5 w, fun _ => rfl, ⟨trivial, trivial⟩⟩, Tryz.underlying5⟩,
  ⟨Tryz.sizeOf6, Tryz.isAgg6, fun w => ⟨_, Tryz.zeroValue6 w, fun _ => rfl, ⟨trivial, trivial⟩⟩, Tryz.underlying6⟩,
  ⟨Tryz.sizeOf7, Tryz.isAgg7, fun w => ⟨_, Tryz.zeroValue7 w, fun _ => rfl, ⟨trivial, trivial, trivial, trivial, trivial⟩⟩, ⟨_, Tryz.underlying7, rfl⟩⟩,
  ⟨Tryz.sizeOf8, Tryz.isAgg8, fun w => ⟨_, Tryz.zeroValue8 w, fun _ => rfl, ⟨trivial, trivial, trivial, trivial, trivial⟩⟩, ⟨_, Tryz.underlying8, rfl⟩⟩,
  ⟨Tryz.sizeOf9, Tryz.isAgg9, fun w => ⟨_, Tryz.zeroValue9 w, fun _ => rfl, ⟨trivial, trivial⟩⟩, Tryz.underlying9⟩,
  ⟨Tryz.sizeOf10, Tryz.isAgg10, fun w => ⟨_, Tryz.zeroValue10 w, fun _ => rfl, ⟨trivial, trivial⟩⟩, Tryz.underlying10⟩,
  ⟨Tryz.sizeOf11, Tryz.isAgg11, fun w => ⟨_, Tryz.zeroValue11 w, fun _ => rfl, ⟨trivial, trivial⟩⟩, Tryz.underlying11⟩,
  ⟨Tryz.sizeOf12, Tryz.isAgg12, fun w => ⟨_, Tryz.zeroValue12 w, fun _ => rfl, ⟨trivial, trivial⟩⟩, Tryz.underlying12⟩,
  ⟨Tryz.sizeOf13, Tryz.isAgg13, fun w => ⟨_, Tryz.zeroValue13 w, fun _ => rfl, ⟨trivial, trivial, trivial⟩⟩, ⟨_, Tryz.underlying13, rfl⟩⟩,
  ⟨Tryz.sizeOf14, Tryz.isAgg14, fun w => ⟨_, Tryz.zeroValue14 w, fun _ => rfl, ⟨trivial, trivial, trivial⟩⟩, ⟨_, Tryz.underlying14, rfl⟩⟩,
  ⟨Tryz.sizeOf15, Tryz.isAgg15, fun w => ⟨_, Tryz.zeroValue15 w, fun _ => rfl, ⟨rfl, trivial⟩⟩, trivial⟩,
  ⟨Tryz.sizeOf16, Tryz.isAgg16, fun w => ⟨_, Tryz.zeroValue16 w, fun _ => rfl, ⟨rfl, trivial⟩⟩, trivial⟩,
  ⟨Tryz.sizeOf17, Tryz.isAgg17, fun w => ⟨_, Tryz.zeroValue17 w, fun _ => rfl, ⟨rfl, trivial⟩⟩, trivial⟩,
  ⟨Tryz.sizeOf18, Tryz.isAgg18, fun w => ⟨_, Tryz.zeroValue18 w, fun _ => rfl, ⟨rfl, trivial⟩⟩, ⟨_, Tryz.underlying18, rfl⟩⟩,
  ⟨Tryz.sizeOf19, Tryz.isAgg19, fun w => ⟨_, Tryz.zeroValue19 w, fun _ => rfl, ⟨rfl, trivial⟩⟩, ⟨_, Tryz.underlying19, rfl⟩⟩,
  ⟨Tryz.sizeOf20, Tryz.isAgg20, fun w => ⟨_, Tryz.zeroValue20 w, fun _ => rfl, ⟨rfl, trivial⟩⟩, trivial⟩,
  ⟨Tryz.sizeOf21, Tryz.isAgg21, fun w => ⟨_, Tryz.zeroValue21 w, fun _ => rfl, ⟨trivial, trivial⟩⟩, Tryz.underlying21⟩,
  ⟨Tryz.sizeOf22, Tryz.isAgg22, fun w => ⟨_, Tryz.zeroValue22 w, fun _ => rfl, ⟨trivial, trivial, trivial⟩⟩, ⟨_, Tryz.underlying22, rfl⟩⟩,
  ⟨Tryz.sizeOf23, Tryz.isAgg23, fun w => ⟨_, Tryz.zeroValue23 w, fun _ => rfl, ⟨trivial, trivial, trivial⟩⟩, ⟨_, Tryz.underlying23, rfl⟩⟩,
  ⟨Tryz.sizeOf24, Tryz.isAgg24, fun w => ⟨_, Tryz.zeroValue24 w, fun _ => rfl, ⟨rfl, trivial⟩⟩, trivial⟩,
  ⟨Tryz.sizeOf25, Tryz.isAgg25, fun w => ⟨_, Tryz.zeroValue25 w, fun _ => rfl, ⟨trivial, trivial⟩⟩, Tryz.underlying25⟩,
  ⟨Tryz.sizeOf27, Tryz.isAgg27, fun w => ⟨_, Tryz.zeroValue27 w, fun _ => rfl, ⟨rfl, trivial⟩⟩, trivial⟩,
  ⟨Tryz.sizeOf29, Tryz.isAgg29, fun w => ⟨_, Tryz.zeroValue29 w, fun _ => rfl, ⟨rfl, trivial⟩⟩, trivial⟩,
  ⟨Tryz.sizeOf30, Tryz.isAgg30, fun w => ⟨_, Tryz.zeroValue30 w, fun _ => rfl, ⟨rfl, trivial⟩⟩, trivial⟩,
  ⟨Tryz.sizeOf31, Tryz.isAgg31, fun w => ⟨_, Tryz.zeroValue31 w, fun _ => rfl, ⟨rfl, trivial⟩⟩, trivial⟩,
  ⟨Tryz.sizeOf32, Tryz.isAgg32, fun w => ⟨_, Tryz.zeroValue32 w, fun _ => rfl, ⟨rfl, trivial⟩⟩, trivial⟩,
  ⟨Tryz.sizeOf33, Tryz.isAgg33, fun w => ⟨_, Tryz.zeroValue33 w, fun _ => rfl, ⟨rfl, trivial⟩⟩, Tryz.underlying33⟩,
  ⟨Tryz.sizeOf34, Tryz.isAgg34, fun w => ⟨_, Tryz.zeroValue34 w, fun _ => rfl, ⟨rfl, trivial⟩⟩, Tryz.underlying34⟩,
  ⟨Tryz.sizeOf35, Tryz.isAgg35, fun w => ⟨_, Tryz.zeroValue35 w, fun _ => rfl, ⟨trivial, rfl, rfl, trivial⟩⟩, ⟨_, Tryz.underlying35, rfl⟩⟩,
  ⟨Tryz.sizeOf36, Tryz.isAgg36, fun w => ⟨_, Tryz.zeroValue36 w, fun _ => rfl, ⟨trivial, rfl, rfl, trivial⟩⟩, ⟨_, Tryz.underlying36, rfl⟩⟩,
  ⟨Tryz.sizeOf37, Tryz.isAgg37, fun w => ⟨_, Tryz.zeroValue37 w, fun _ => rfl, ⟨rfl, trivial⟩⟩, trivial⟩,
  ⟨Tryz.sizeOf38, Tryz.isAgg38, fun w => ⟨_, Tryz.zeroValue38 w, fun _ => rfl, ⟨rfl, trivial⟩⟩, trivial⟩,
  ⟨Tryz.sizeOf39, Tryz.isAgg39, fun w => ⟨_, Tryz.zeroValue39 w, fun _ => rfl, ⟨rfl, trivial⟩⟩, trivial⟩,
  ⟨Tryz.sizeOf40, Tryz.isAgg40, fun w => ⟨_, Tryz.zeroValue40 w, fun _ => rfl, ⟨rfl, trivial⟩⟩, trivial⟩,
  ⟨Tryz.sizeOf41, Tryz.isAgg41, fun w => ⟨_, Tryz.zeroValue41 w, fun _ => rfl, ⟨rfl, trivial⟩⟩, trivial⟩,
  ⟨Tryz.sizeOf42, Tryz.isAgg42, fun w => ⟨_, Tryz.zeroValue42 w, fun _ => rfl, ⟨rfl, trivial⟩⟩, trivial⟩,
  ⟨Tryz.sizeOf43, Tryz.isAgg43, fun w => ⟨_, Tryz.zeroValue43 w, fun _ => rfl, ⟨rfl, trivial⟩⟩, trivial⟩,
  ⟨Tryz.sizeOf44, Tryz.isAgg44, fun w => ⟨_, Tryz.zeroValue44 w, fun _ => rfl, ⟨rfl, trivial⟩⟩, trivial⟩,
  ⟨Tryz.sizeOf45, Tryz.isAgg45, fun w => ⟨_, Tryz.zeroValue45 w, fun _ => rfl, ⟨rfl, trivial⟩⟩, trivial⟩,
  ⟨Tryz.sizeOf46, Tryz.isAgg46, fun w => ⟨_, Tryz.zeroValue46 w, fun _ => rfl, ⟨rfl, trivial⟩⟩, trivial⟩,
  ⟨Tryz.sizeOf47, Tryz.isAgg47, fun w => ⟨_, Tryz.zeroValue47 w, fun _ => rfl, ⟨rfl, trivial⟩⟩, trivial⟩,
  ⟨Tryz.sizeOf48, Tryz.isAgg48, fun w => ⟨_, Tryz.zeroValue48 w, fun _ => rfl, ⟨rfl, trivial⟩⟩, trivial⟩,
  ⟨Tryz.sizeOf49, Tryz.isAgg49, fun w => ⟨_, Tryz.zeroValue49 w, fun _ => rfl, ⟨rfl, trivial⟩⟩, trivial⟩,
  ⟨Tryz.sizeOf50, Tryz.isAgg50, fun w => ⟨_, Tryz.zeroValue50 w, fun _ => rfl, ⟨rfl, trivial⟩⟩, trivial⟩,
  ⟨Tryz.sizeOf51, Tryz.isAgg51, fun w => ⟨_, Tryz.zeroValue51 w, fun _ => rfl, ⟨rfl, trivial⟩⟩, trivial⟩,
  ⟨Tryz.sizeOf52, Tryz.isAgg52, fun w => ⟨_, Tryz.zeroValue52 w, fun _ => rfl, ⟨rfl, trivial⟩⟩, trivial⟩,
  ⟨Tryz.sizeOf54, Tryz.isAgg54, fun w => ⟨_, Tryz.zeroValue54 w, fun _ => rfl, ⟨rfl, trivial⟩⟩, trivial⟩,
  ⟨Tryz.sizeOf55, Tryz.isAgg55, fun w => ⟨_, Tryz.zeroValue55 w, fun _ => rfl, ⟨rfl, trivial⟩⟩, trivial⟩,
  ⟨Tryz.sizeOf57, Tryz.isAgg57, fun w => ⟨_, Tryz.zeroValue57 w, fun _ => rfl, ⟨rfl, trivial⟩⟩, trivial⟩,
  ⟨Tryz.sizeOf59, Tryz.isAgg59, fun w => ⟨_, Tryz.zeroValue59 w, fun _ => rfl, ⟨rfl, trivial⟩⟩, trivial⟩,
  ⟨Tryz.sizeOf61, Tryz.isAgg61, fun w => ⟨_, Tryz.zeroValue61 w, fun _ => rfl, ⟨rfl, trivial⟩⟩, trivial⟩,
  ⟨Tryz.sizeOf63, Tryz.isAgg63, fun w => ⟨_, Tryz.zeroValue63 w, fun _ => rfl, ⟨rfl, trivial⟩⟩, trivial⟩,
  ⟨Tryz.sizeOf64, Tryz.isAgg64, fun w => ⟨_, Tryz.zeroValue64 w, fun _ => rfl, ⟨rfl, trivial⟩⟩, trivial⟩,
  ⟨Tryz.sizeOf65, Tryz.isAgg65, fun w => ⟨_, Tryz.zeroValue65 w, fun _ => rfl, ⟨rfl, trivial⟩⟩, trivial⟩,
  ⟨Tryz.sizeOf66, Tryz.isAgg66, fun w => ⟨_, Tryz.zeroValue66 w, fun _ => rfl, ⟨rfl, trivial⟩⟩, Tryz.underlying66⟩,
  ⟨Tryz.sizeOf67, Tryz.isAgg67, fun w => ⟨_, Tryz.zeroValue67 w, fun _ => rfl, ⟨rfl, trivial⟩⟩, Tryz.underlying67⟩,
  ⟨Tryz.sizeOf68, Tryz.isAgg68, fun w => ⟨_, Tryz.zeroValue68 w, fun _ => rfl, ⟨trivial, rfl, rfl, trivial⟩⟩, ⟨_, Tryz.underlying68, rfl⟩⟩,
  ⟨Tryz.sizeOf69, Tryz.isAgg69, fun w => ⟨_, Tryz.zeroValue69 w, fun _ => rfl, ⟨trivial, rfl, rfl, trivial⟩⟩, ⟨_, Tryz.underlying69, rfl⟩⟩,
  ⟨Tryz.sizeOf70, Tryz.isAgg70, fun w => ⟨_, Tryz.zeroValue70 w, fun _ => rfl, ⟨rfl, trivial⟩⟩, trivial⟩,
  ⟨Tryz.sizeOf71, Tryz.isAgg71, fun w => ⟨_, Tryz.zeroValue71 w, fun _ => rfl, ⟨rfl, trivial⟩⟩, trivial⟩,
  ⟨Tryz.sizeOf72, Tryz.isAgg72, fun w => ⟨_, Tryz.zeroValue72 w, fun _ => rfl, ⟨rfl, trivial⟩⟩, trivial⟩,
  ⟨Tryz.sizeOf74, Tryz.isAgg74, fun w => ⟨_, Tryz.zeroValue74 w, fun _ => rfl, ⟨rfl, trivial⟩⟩, trivial⟩,
  ⟨Tryz.sizeOf76, Tryz.isAgg76, fun w => ⟨_, Tryz.zeroValue76 w, fun _ => rfl, ⟨rfl, trivial⟩⟩, trivial⟩,
  ⟨Tryz.sizeOf77, Tryz.isAgg77, fun w => ⟨_, Tryz.zeroValue77 w, fun _ => rfl, ⟨rfl, trivial⟩⟩, trivial⟩,
  ⟨Tryz.sizeOf78, Tryz.isAgg78, fun w => ⟨_, Tryz.zeroValue78 w, fun _ => rfl, ⟨rfl, trivial⟩⟩, trivial⟩,
  ⟨Tryz.sizeOf79, Tryz.isAgg79, fun w => ⟨_, Tryz.zeroValue79 w, fun _ => rfl, ⟨rfl, trivial⟩⟩, trivial⟩,
  ⟨Tryz.sizeOf80, Tryz.isAgg80, fun w => ⟨_, Tryz.zeroValue80 w, fun _ => rfl, ⟨rfl, trivial⟩⟩, trivial⟩,
  ⟨Tryz.sizeOf81, Tryz.isAgg81, fun w => ⟨_, Tryz.zeroValue81 w, fun _ => rfl, ⟨rfl, trivial⟩⟩, trivial⟩,
  ⟨Tryz.sizeOf82, Tryz.isAgg82, fun w => ⟨_, Tryz.zeroValue82 w, fun _ => rfl, ⟨rfl, trivial⟩⟩, trivial⟩,
  ⟨Tryz.sizeOf84, Tryz.isAgg84, fun w => ⟨_, Tryz.zeroValue84 w, fun _ => rfl, ⟨rfl, trivial⟩⟩, trivial⟩,
  ⟨Tryz.sizeOf85, Tryz.isAgg85, fun w => ⟨_, Tryz.zeroValue85 w, fun _ => rfl, ⟨rfl, trivial⟩⟩, trivial⟩,
  ⟨Tryz.sizeOf87, Tryz.isAgg87, fun w => ⟨_, Tryz.zeroValue87 w, fun _ => rfl, ⟨rfl, trivial⟩⟩, trivial⟩,
  ⟨Tryz.sizeOf89, Tryz.isAgg89, fun w => ⟨_, Tryz.zeroValue89 w, fun _ => rfl, ⟨rfl, trivial⟩⟩, trivial⟩,
  ⟨Tryz.sizeOf90, Tryz.isAgg90, fun w => ⟨_, Tryz.zeroValue90 w, fun _ => rfl, ⟨rfl, trivial⟩⟩, trivial⟩,
  ⟨Tryz.sizeOf91, Tryz.isAgg91, fun w => ⟨_, Tryz.zeroValue91 w, fun _ => rfl, ⟨rfl, trivial⟩⟩, trivial⟩,
  ⟨Tryz.sizeOf93, Tryz.isAgg93, fun w => ⟨_, Tryz.zeroValue93 w, fun _ => rfl, ⟨rfl, trivial⟩⟩, trivial⟩,
  ⟨Tryz.sizeOf95, Tryz.isAgg95, fun w => ⟨_, Tryz.zeroValue95 w, fun _ => rfl, ⟨rfl, trivial⟩⟩, trivial⟩,
  ⟨Tryz.sizeOf96, Tryz.isAgg96, fun w => ⟨_, Tryz.zeroValue96 w, fun _ => rfl, ⟨rfl, trivial⟩⟩, trivial⟩,
  ⟨Tryz.sizeOf97, Tryz.isAgg97, fun w => ⟨_, Tryz.zeroValue97 w, fun _ => rfl, ⟨trivial, trivial⟩⟩, Tryz.underlying97⟩,
  ⟨Tryz.sizeOf98, Tryz.isAgg98, fun w => ⟨_, Tryz.zeroValue98 w, fun _ => rfl, ⟨rfl, trivial⟩⟩, trivial⟩,
  ⟨Tryz.sizeOf99, Tryz.isAgg99, fun w => ⟨_, Tryz.zeroValue99 w, fun _ => rfl, ⟨rfl, trivial⟩⟩, trivial⟩,
  ⟨Tryz.sizeOf100, Tryz.isAgg100, fun w => ⟨_, Tryz.zeroValue100 w, fun _ => rfl, ⟨rfl, trivial⟩⟩, trivial⟩,
  ⟨Tryz.sizeOf101, Tryz.isAgg101, fun w => ⟨_, Tryz.zeroValue101 w, fun _ => rfl, ⟨rfl, trivial⟩⟩, trivial⟩,
  ⟨Tryz.sizeOf102, Tryz.isAgg102, fun w => ⟨_, Tryz.zeroValue102 w, fun _ => rfl, ⟨rfl, trivial⟩⟩, trivial⟩,
  ⟨Tryz.sizeOf103, Tryz.isAgg103, fun w => ⟨_, Tryz.zeroValue103 w, fun _ => rfl, ⟨rfl, trivial⟩⟩, trivial⟩,
  ⟨Tryz.sizeOf104, Tryz.isAgg104, fun w => ⟨_, Tryz.zeroValue104 w, fun _ => rfl, ⟨rfl, trivial⟩⟩, trivial⟩,
  ⟨Tryz.sizeOf105, Tryz.isAgg105, fun w => ⟨_, Tryz.zeroValue105 w, fun _ => rfl, ⟨rfl, trivial⟩⟩, trivial⟩,
  ⟨Tryz.sizeOf106, Tryz.isAgg106, fun w => ⟨_, Tryz.zeroValue106 w, fun _ => rfl, ⟨rfl, trivial⟩⟩, trivial⟩,
  ⟨Tryz.sizeOf108, Tryz.isAgg108, fun w => ⟨_, Tryz.zeroValue108 w, fun _ => rfl, ⟨rfl, trivial⟩⟩, trivial⟩,
  ⟨Tryz.sizeOf109, Tryz.isAgg109, fun w => ⟨_, Tryz.zeroValue109 w, fun _ => rfl, ⟨rfl, trivial⟩⟩, trivial⟩,
  ⟨Tryz.sizeOf110, Tryz.isAgg110, fun w => ⟨_, Tryz.zeroValue110 w, fun _ => rfl, ⟨rfl, trivial⟩⟩, Tryz.underlying110⟩,
  ⟨Tryz.sizeOf111, Tryz.isAgg111, fun w => ⟨_, Tryz.zeroValue111 w, fun _ => rfl, ⟨rfl, trivial⟩⟩, trivial⟩,
  ⟨Tryz.sizeOf112, Tryz.isAgg112, fun w => ⟨_, Tryz.zeroValue112 w, fun _ => rfl, ⟨rfl, trivial⟩⟩, trivial⟩,
  ⟨Tryz.sizeOf113, Tryz.isAgg113, fun w => ⟨_, Tryz.zeroValue113 w, fun _ => rfl, ⟨trivial, trivial⟩⟩, Tryz.underlying113⟩,
  ⟨Tryz.sizeOf114, Tryz.isAgg114, fun w => ⟨_, Tryz.zeroValue114 w, fun _ => rfl, ⟨rfl, trivial⟩⟩, trivial⟩,
  ⟨Tryz.sizeOf115, Tryz.isAgg115, fun w => ⟨_, Tryz.zeroValue115 w, fun _ => rfl, ⟨rfl, trivial⟩⟩, trivial⟩,
  ⟨Tryz.sizeOf116, Tryz.isAgg116, fun w => ⟨_, Tryz.zeroValue116 w, fun _ => rfl, ⟨rfl, trivial⟩⟩, trivial⟩,
  ⟨Tryz.sizeOf117, Tryz.isAgg117, fun w => ⟨_, Tryz.zeroValue117 w, fun _ => rfl, ⟨rfl, trivial⟩⟩, trivial⟩,
  ⟨Tryz.sizeOf118, Tryz.isAgg118, fun w => ⟨_, Tryz.zeroValue118 w, fun _ => rfl, ⟨rfl, trivial⟩⟩, trivial⟩,
  ⟨Tryz.sizeOf119, Tryz.isAgg119, fun w => ⟨_, Tryz.zeroValue119 w, fun _ => rfl, ⟨rfl, trivial⟩⟩, trivial⟩, (show Tryz.prog.follows .mixedOrders = true by kernel_rfl)⟩
end Sym
end Go.Proofs.YtfodbfbljeeojaaGreatDoor
