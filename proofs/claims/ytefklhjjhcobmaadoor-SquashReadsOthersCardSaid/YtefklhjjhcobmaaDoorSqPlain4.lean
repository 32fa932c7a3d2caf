/- A code's text is met where look finds its symbol. -/
import Derived.Test.YtefklhjjhcobmaaDoorSqPlain3
namespace Go.Proofs.YtefklhjjhcobmaaDoor.SqP
theorem pre_get (L : List Nat) (n r s : Nat) : ∀ k, (pre L n k)[r]? = some s ↔ s < k ∧ L.getD s 0 = n ∧ (pre L n s).length = r
  | 0 => by simp [pre]
  | k + 1 => by
    have ih := pre_get L n r s k
    by_cases h : L.getD k 0 = n
    · rw [pre_yes L n k h]
      rcases Nat.lt_trichotomy r (pre L n k).length with hr | hr | hr
      · rw [List.getElem?_append_left hr, ih]
        constructor
        · intro ⟨h1, h2, h3⟩; exact ⟨by omega, h2, h3⟩
        · intro ⟨h1, h2, h3⟩
          refine ⟨?_, h2, h3⟩
          rcases Nat.lt_or_ge s k with h4 | h4
          · exact h4
          · have : s = k := by omega
            subst this; omega
      · subst hr
        rw [List.getElem?_append_right (Nat.le_refl _), Nat.sub_self, List.getElem?_cons_zero]
        constructor
        · intro e
          have : k = s := by simpa using e
          subst this; exact ⟨by omega, h, rfl⟩
        · intro ⟨h1, h2, h3⟩
          rcases Nat.lt_or_ge s k with h4 | h4
          · exfalso
            have h5 := pre_mono L n (s + 1) (k - (s + 1))
            rw [show s + 1 + (k - (s + 1)) = k from by omega, pre_yes L n s h2, List.length_append] at h5
            simp at h5; omega
          · have : s = k := by omega
            rw [this]
      · rw [List.getElem?_append_right (by omega)]
        have e : [k][r - (pre L n k).length]? = none := List.getElem?_eq_none (by simp; omega)
        rw [e]
        constructor
        · intro h2; cases h2
        · intro ⟨h1, h2, h3⟩
          have h5 := pre_mono L n s (k - s)
          rw [show s + (k - s) = k from by omega] at h5
          omega
    · rw [pre_no L n k h, ih]
      constructor
      · intro ⟨h1, h2, h3⟩; exact ⟨by omega, h2, h3⟩
      · intro ⟨h1, h2, h3⟩
        refine ⟨?_, h2, h3⟩
        rcases Nat.lt_or_ge s k with h4 | h4
        · exact h4
        · have : s = k := by omega
          rw [this] at h2; exact absurd h2 h
theorem look_iff (L : List Nat) (hL : L.length = 272) (n c s : Nat) : look L n c = some s ↔ s < 272 ∧ L.getD s 0 = n ∧ 2 * ca L (n - 1) + (pre L n s).length = c := by
  unfold look
  by_cases h : 2 * ca L (n - 1) ≤ c
  · rw [if_pos h]
    unfold syms
    rw [pre_get, hL]
    constructor
    · intro ⟨h1, h2, h3⟩; exact ⟨h1, h2, by omega⟩
    · intro ⟨h1, h2, h3⟩; exact ⟨h1, h2, by omega⟩
  · rw [if_neg h]
    constructor
    · intro e; cases e
    · intro ⟨_, _, h3⟩; omega
/-- under the room that is permitted, a code's number fits its length -/
theorem code_lt (L : List Nat) (hL : L.length = 272) (hk : kr L 15 ≤ 32768) (n s : Nat) (hn : 1 ≤ n) (hn2 : n ≤ 15) (hs : s < 272) (h : L.getD s 0 = n) : 2 * ca L (n - 1) + (pre L n s).length < 2 ^ n := by
  have h1 := kr_over L n (s + 1) hn hn2 (by omega)
  have e := kr_ca L (n - 1) (by omega)
  rw [e, pre_yes L n s h, List.length_append, show 15 - (n - 1) = (15 - n) + 1 from by omega, Nat.pow_succ, Nat.mul_comm (2 ^ (15 - n)) 2, ← Nat.mul_assoc, ← Nat.add_mul, Nat.mul_comm _ 2] at h1
  have h2 : (2 * ca L (n - 1) + ((pre L n s).length + 1)) * 2 ^ (15 - n) ≤ 2 ^ n * 2 ^ (15 - n) := by
    rw [← Nat.pow_add, show n + (15 - n) = 15 from by omega]
    exact Nat.le_trans h1 hk
  have := Nat.le_of_mul_le_mul_right h2 (Nat.two_pow_pos _)
  omega
theorem text_iff (L : List Nat) (hL : L.length = 272) (hL15 : ∀ s, L.getD s 0 ≤ 15) (hk : kr L 15 ≤ 32768) (n c s : Nat) (hn : 1 ≤ n) (hc : c < 2 ^ n) (hs : s < 272) : codeT L s = binS n c ↔ look L n c = some s := by
  rw [look_iff L hL]
  constructor
  · intro h
    have hlen : (codeT L s).length = n := by rw [h, binS_len]
    have h15 := hL15 s
    have hn' : L.getD s 0 = n := by
      unfold codeT at hlen
      by_cases h0 : L.getD s 0 = 0
      · rw [if_pos h0] at hlen; simp at hlen; omega
      · rw [if_neg h0, binS_len] at hlen; exact hlen
    refine ⟨hs, hn', ?_⟩
    have hlt := code_lt L hL hk n s hn (by omega) hs hn'
    unfold codeT at h
    rw [if_neg (by omega), hn'] at h
    exact binS_inj n _ _ hlt hc h
  · intro ⟨_, h2, h3⟩
    unfold codeT
    rw [if_neg (by omega), h2, h3]
end Go.Proofs.YtefklhjjhcobmaaDoor.SqP
