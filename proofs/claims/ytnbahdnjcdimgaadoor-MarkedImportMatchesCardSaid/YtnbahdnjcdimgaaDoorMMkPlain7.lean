/- Marked-down texts, plain: a line as the reference reads it, step by step. -/
import Derived.Test.YtnbahdnjcdimgaaDoorMGI
import Derived.Test.YtnbahdnjcdimgaaDoorMGH
set_option linter.unusedSimpArgs false
set_option linter.unusedVariables false
namespace Go.Proofs.YtnbahdnjcdimgaaDoor
namespace MkP
theorem lkA_suf : ∀ (l m : List Tok), lkA l = some m → m <:+ l ∧ m ≠ []
  | [], m, h => by simp [lkA] at h
  | y :: r, m, h => by
    unfold lkA at h
    split at h
    · cases h
    · split at h
      · cases h; exact ⟨List.suffix_refl _, by simp⟩
      · exact ⟨(lkA_suf r m h).1.trans (List.suffix_cons _ _), (lkA_suf r m h).2⟩
theorem lkB_suf : ∀ (l : List Tok) (acc t : Str) (b : List Tok), lkB l acc = some (t, b) → b <:+ l ∧ t ≠ []
  | [], acc, t, b, h => by simp [lkB] at h
  | y :: r, acc, t, b, h => by
    unfold lkB at h
    split at h
    · split at h
      · cases h
      · rename_i hn
        cases h; exact ⟨List.suffix_cons _ _, fun e => hn (.inl e)⟩
    · split at h
      · cases h
      · exact ⟨(lkB_suf r _ t b h).1.trans (List.suffix_cons _ _), (lkB_suf r _ t b h).2⟩
theorem linkT_ok {l : List Tok} {t : Str} {m b : List Tok} (h : linkT l = some (t, m, b)) : t ≠ [] ∧ m <:+ l ∧ b <:+ l ∧ b.length < m.length := by
  unfold linkT at h
  split at h
  · cases h
  · rename_i m' hm
    split at h
    · cases h
    · rename_i t' b' hb
      cases h
      obtain ⟨h1, h2⟩ := lkA_suf _ _ hm
      obtain ⟨h3, h4⟩ := lkB_suf _ _ _ _ hb
      have hl := h3.length_le
      rw [List.length_drop] at hl
      have := List.length_pos_iff.2 h2
      exact ⟨h4, h1, (h3.trans (List.drop_suffix _ _)).trans h1, by omega⟩
theorem suf_dropT {s r : List Tok} (h : r <:+ s) : s.drop (s.length - r.length) = r := (List.suffix_iff_eq_drop.1 h).symm
structure MT where
  r : RT
  i : Nat
  e : Option Nat
  j : Nat
  its : List Itm
abbrev rs (L : List Tok) (t : MT) : RS := ⟨L.drop t.i, t.r.o0, t.r.o1, t.r.o2, t.r.o3, t.r.link, t.e, L.drop t.j⟩
structure RI (L : List Tok) (Tot : List Itm) (fr : Nat) (t : MT) : Prop where
  tot : ∃ n, L.length - t.i < n ∧ t.its ++ rl n (rs L t) = Tot
  i : t.i ≤ L.length
  e : ∀ k, t.e = some k → k ≤ L.length ∧ t.j ≤ L.length ∧ L.length - t.j < k ∧ 1 ≤ t.j
  els : t.r.els.map ec = t.its.map (·.2)
  n : t.r.n = t.its.length
  ls : t.r.ls = lossI fr t.its
  k : t.r.k = t.r.ls.length
  len : t.its.length ≤ t.i
theorem RI.go {L : List Tok} {Tot : List Itm} {fr : Nat} {t t' : MT} (h : RI L Tot fr t) (x : List Itm) (hlt : t.i < L.length) (hi : t'.its = t.its ++ x) (he : ∀ n, rl (n + 1) (rs L t) = x ++ rl n (rs L t')) (h1 : t.i < t'.i) (h0 : t'.i ≤ L.length) (hE : ∀ k, t'.e = some k → k ≤ L.length ∧ t'.j ≤ L.length ∧ L.length - t'.j < k ∧ 1 ≤ t'.j) (h2 : t'.r.els.map ec = t.r.els.map ec ++ x.map (·.2)) (h3 : t'.r.n = t.r.n + x.length) (h4 : t'.r.ls = t.r.ls ++ lossI (fr + t.r.n) x) (h5 : t'.r.k = t'.r.ls.length) (hx : x.length ≤ 1) : RI L Tot fr t' := by
  have hl := h.len
  refine ⟨?_, h0, hE, ?_, ?_, ?_, h5, ?_⟩
  · obtain ⟨n, hn, ht⟩ := h.tot
    obtain ⟨n, rfl⟩ : ∃ n', n = n' + 1 := ⟨n - 1, by omega⟩
    rw [he n] at ht
    exact ⟨n, by omega, by rw [hi, List.append_assoc]; exact ht⟩
  · rw [h2, h.els, hi, List.map_append]
  · rw [h3, h.n, hi, List.length_append]
  · rw [h4, h.ls, hi, lossI_app, h.n]
  · rw [hi, List.length_append]; omega
theorem drop_two (l : List Tok) (i : Nat) : (l.drop (i + 1)).drop 1 = l.drop (i + 2) := by rw [List.drop_drop]
section
variable {L : List Tok} {Tot : List Itm} {fr : Nat} {r : RT} {i j : Nat} {e : Option Nat} {its : List Itm}
theorem RI.jump (h : RI L Tot fr ⟨r, i, e, j, its⟩) (hlt : i < L.length) (he : e = some (L.length - i)) : RI L Tot fr ⟨{ r with link := [] }, j, none, j, its⟩ := by
  obtain ⟨e1, e2, e3, e4⟩ := h.e _ he
  dsimp only at e2 e3
  refine h.go [] hlt (by simp) (fun n => ?_) (by dsimp only; omega) e2 (fun k hk => by cases hk) (by simp) rfl (by simp [lossI]) h.k (by simp)
  conv => lhs; unfold rl
  dsimp only [rs]
  rw [tk_step hlt]
  dsimp only
  rw [if_pos (by rw [he, List.length_drop]; congr 1; omega)]
  rfl
theorem ne_e (hlt : i < L.length) (he : e ≠ some (L.length - i)) : ¬ e = some ((L.drop (i + 1)).length + 1) := by
  rw [List.length_drop, show L.length - (i + 1) + 1 = L.length - i by omega]; exact he
theorem RI.bold (h : RI L Tot fr ⟨r, i, e, j, its⟩) (hlt : i < L.length) (he : e ≠ some (L.length - i)) (h1 : (tk L i).is 42 = true) (h2 : i + 1 < L.length) (h3 : (tk L (i + 1)).is 42 = true) : RI L Tot fr ⟨{ r with o0 := !r.o0 }, i + 2, e, j, its⟩ := by
  refine h.go [] hlt (by simp) (fun n => ?_) (by dsimp only; omega) (by dsimp only; omega) h.e (by simp) rfl (by simp [lossI]) h.k (by simp)
  conv => lhs; unfold rl
  dsimp only [rs]
  rw [tk_step hlt]
  dsimp only
  rw [if_neg (ne_e hlt he), if_pos (by rw [h1, hd_drop, h3, decide_eq_true h2]; rfl), drop_two]
  rfl
theorem RI.ital (h : RI L Tot fr ⟨r, i, e, j, its⟩) (hlt : i < L.length) (he : e ≠ some (L.length - i)) (h1 : (tk L i).is 42 = true) (h2 : ¬ (i + 1 < L.length ∧ (tk L (i + 1)).is 42 = true)) : RI L Tot fr ⟨{ r with o1 := !r.o1 }, i + 1, e, j, its⟩ := by
  refine h.go [] hlt (by simp) (fun n => ?_) (by dsimp only; omega) (by dsimp only; omega) h.e (by simp) rfl (by simp [lossI]) h.k (by simp)
  conv => lhs; unfold rl
  dsimp only [rs]
  rw [tk_step hlt]
  dsimp only
  rw [if_neg (ne_e hlt he), if_neg (by rw [h1, hd_drop]; simpa using h2), if_pos h1]
  rfl
theorem is_of {t : Tok} {c : Nat} (h : t.is c = true) : t.c = c := by
  unfold Tok.is at h
  simp only [Bool.and_eq_true, decide_eq_true_eq] at h
  exact h.2.2
theorem is_ne {t : Tok} {c d : Nat} (h : t.is c = true) (hd : c ≠ d) : t.is d = false := by
  by_cases hq : t.is d = true
  · exact absurd ((is_of h).symm.trans (is_of hq)) hd
  · simpa using hq
theorem RI.strike (h : RI L Tot fr ⟨r, i, e, j, its⟩) (hlt : i < L.length) (he : e ≠ some (L.length - i)) (h1 : (tk L i).is 126 = true) (h2 : i + 1 < L.length) (h3 : (tk L (i + 1)).is 126 = true) : RI L Tot fr ⟨{ r with o2 := !r.o2 }, i + 2, e, j, its⟩ := by
  refine h.go [] hlt (by simp) (fun n => ?_) (by dsimp only; omega) (by dsimp only; omega) h.e (by simp) rfl (by simp [lossI]) h.k (by simp)
  have h42 := is_ne h1 (d := 42) (by decide)
  conv => lhs; unfold rl
  dsimp only [rs]
  rw [tk_step hlt]
  dsimp only
  rw [if_neg (ne_e hlt he), if_neg (by rw [h42]; simp), if_neg (by rw [h42]; simp), if_pos (by rw [h1, hd_drop, h3, decide_eq_true h2]; rfl), drop_two]
  rfl
theorem RI.code (h : RI L Tot fr ⟨r, i, e, j, its⟩) (hlt : i < L.length) (he : e ≠ some (L.length - i)) (h1 : (tk L i).is 96 = true) : RI L Tot fr ⟨{ r with o3 := !r.o3 }, i + 1, e, j, its⟩ := by
  refine h.go [] hlt (by simp) (fun n => ?_) (by dsimp only; omega) (by dsimp only; omega) h.e (by simp) rfl (by simp [lossI]) h.k (by simp)
  have h42 := is_ne h1 (d := 42) (by decide)
  have h126 := is_ne h1 (d := 126) (by decide)
  conv => lhs; unfold rl
  dsimp only [rs]
  rw [tk_step hlt]
  dsimp only
  rw [if_neg (ne_e hlt he), if_neg (by rw [h42]; simp), if_neg (by rw [h42]; simp), if_neg (by rw [h126]; simp), if_pos h1]
  rfl
theorem RI.link (h : RI L Tot fr ⟨r, i, e, j, its⟩) (hlt : i < L.length) (he : e ≠ some (L.length - i)) (h1 : (tk L i).is 91 = true) (h2 : r.link = []) {tx : Str} {m b : List Tok} (h3 : linkT (L.drop (i + 1)) = some (tx, m, b)) : RI L Tot fr ⟨{ r with link := tx }, i + 1, some m.length, L.length - b.length, its⟩ := by
  obtain ⟨q1, q2, q3, q4⟩ := linkT_ok h3
  have l2 := q2.length_le
  have l3 := q3.length_le
  rw [List.length_drop] at l2 l3
  refine h.go [] hlt (by simp) (fun n => ?_) (by dsimp only; omega) (by dsimp only; omega) (fun k hk => by cases hk; dsimp only; omega) (by simp) rfl (by simp [lossI]) h.k (by simp)
  have h42 := is_ne h1 (d := 42) (by decide)
  have h126 := is_ne h1 (d := 126) (by decide)
  have h96 := is_ne h1 (d := 96) (by decide)
  conv => lhs; unfold rl
  dsimp only [rs]
  rw [tk_step hlt]
  dsimp only
  rw [if_neg (ne_e hlt he), if_neg (by rw [h42]; simp), if_neg (by rw [h42]; simp), if_neg (by rw [h126]; simp), if_neg (by rw [h96]; simp), if_pos ⟨h1, h2⟩, h3]
  dsimp only
  rw [suf_dropT (q3.trans (List.drop_suffix _ _))]
  rfl
/-- a character is shown -/
structure Emit (L : List Tok) (i : Nat) (e : Option Nat) (link : Str) : Prop where
  lt : i < L.length
  e : e ≠ some (L.length - i)
  h42 : (tk L i).is 42 = false
  h126 : ¬ ((tk L i).is 126 = true ∧ i + 1 < L.length ∧ (tk L (i + 1)).is 126 = true)
  h96 : (tk L i).is 96 = false
  h91 : (tk L i).is 91 = true → link = [] → linkT (L.drop (i + 1)) = none
theorem RI.emit (h : RI L Tot fr ⟨r, i, e, j, its⟩) (hE : Emit L i e r.link) (a : Option Addr) (cap : Nat) (xa : Option Addr) (xc : Nat) (lb : Bool) (b : Option Addr) (k lcap : Nat) (ls : List Nat) (hls : ls = if (tk L i).bad then r.ls ++ [fr + r.n] else r.ls) (hk : k = ls.length) :
    RI L Tot fr ⟨{ r with ob := true, a := a, n := r.n + 1, cap := cap, els := r.els ++ [⟨(tk L i).c, xa, xc, ats r.o0 r.o1 r.o2 r.o3 r.link⟩], lb := lb, b := b, k := k, lcap := lcap, ls := ls }, i + 1, e, j, its ++ [((tk L i).bad, (tk L i).c, ats r.o0 r.o1 r.o2 r.o3 r.link)]⟩ := by
  refine h.go _ hE.lt rfl (fun n => ?_) (by dsimp only; omega) hE.lt h.e (by simp [ec]) rfl (by dsimp only; rw [hls, lossI_one]; dsimp only; split <;> simp) hk (by simp)
  conv => lhs; unfold rl
  dsimp only [rs]
  rw [tk_step hE.lt]
  dsimp only
  have e1 : (if (tk L i).is 91 = true ∧ r.link = [] then linkT (L.drop (i + 1)) else none) = none := by
    split
    · rename_i q; exact hE.h91 q.1 q.2
    · rfl
  rw [if_neg (ne_e hE.lt hE.e), if_neg (by rw [hE.h42]; simp), if_neg (by rw [hE.h42]; simp), if_neg (by rw [hd_drop]; simpa using hE.h126), if_neg (by rw [hE.h96]; simp), e1]
  rfl
theorem RI.done (h : RI L Tot fr ⟨r, i, e, j, its⟩) (hi : ¬ i < L.length) : its = Tot := by
  obtain ⟨n, hn, ht⟩ := h.tot
  obtain ⟨n, rfl⟩ : ∃ n', n = n' + 1 := ⟨n - 1, by omega⟩
  unfold rl at ht
  have e : L.drop i = [] := List.drop_eq_nil_of_le (by omega)
  dsimp only at ht
  rw [e, List.append_nil] at ht
  exact ht
end
theorem RI.start (s : Str) (fr : Nat) : RI (toks s) (lineP s) fr ⟨⟨false, none, 0, 0, [], false, none, 0, 0, [], false, false, false, false, []⟩, 0, none, 0, []⟩ := by
  have hl := toks_len _ s (Nat.le_refl _)
  refine ⟨⟨s.length + 1, by dsimp only; omega, ?_⟩, Nat.zero_le _, (fun k h => by cases h), rfl, rfl, rfl, rfl, Nat.le_refl _⟩
  rw [List.nil_append, ← line_same]
  have e : ∀ n l o0 o1 o2 o3 lk (b b' : List Tok), rl n ⟨l, o0, o1, o2, o3, lk, none, b⟩ = rl n ⟨l, o0, o1, o2, o3, lk, none, b'⟩ := by
    intro n
    induction n with
    | zero => intros; rfl
    | succ n ih =>
      intro l o0 o1 o2 o3 lk b b'
      unfold rl
      cases l with
      | nil => rfl
      | cons x r =>
        dsimp only
        simp only [reduceCtorEq, if_false]
        rw [ih _ _ _ _ _ _ b b', ih _ _ _ _ _ _ b b', ih _ _ _ _ _ _ b b', ih _ _ _ _ _ _ b b', ih _ _ _ _ _ _ b b']
  exact e _ _ _ _ _ _ _ _ _
end MkP
end Go.Proofs.YtnbahdnjcdimgaaDoor
