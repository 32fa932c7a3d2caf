/- Marked-down texts, plainly: a line read byte by byte, and read by its characters. DERIVED: THE SHELF's CONTRACTS AT THIS DUMP, IN PLAIN WORDS (tools/lay-plain.mjs out of 'YtnbahdnjcdimgaaDoorShelf.lean', which tools/lay-shelf.mjs wrote): THE SAME DECLARATIONS UNDER THE SAME NAMES: 'import', 'namespace', 'open', 'def', 'theorem' AND NOTHING ELSE: no command of the shelf's: FOR A HAND-IN. Each laying: the table of numbers ('.._ren') and one theorem, a field a fact of the dump's own or the kernel's comparison; each contract: ONE APPLICATION. Contracts of the shelf at this seat, laid by hand. -/
import Derived.Test.YtnbahdnjcdimgaaDoorMGE
import Derived.Shelf.Strings.Builder1
import Derived.Shelf.Strings.Trim
import Derived.Shelf.Small.Utf8
import Derived.Shelf.Small.Bits
import Derived.Shelf.Small.Strs
import Derived.Shelf.Small.Wraps
import Derived.Shelf.Strings.BuilderF
import Derived.Shelf.Strings.BuilderK
import Derived.Shelf.Utf8.RuneCount
import Derived.Shelf.Strconv.Itoa0
import Derived.Shelf.Strings.Search1
import Derived.Shelf.Strings.Search2
import Derived.Shelf.Strings.Search3
import Derived.Shelf.Strings.Count
import Derived.Shelf.LaysM
import Derived.Shelf.Strings.Shaped
import Derived.Shelf.Strings.Prefix
import Derived.Shelf.Strings.Split
import Derived.Shelf.Strings.SplitShaped
import Derived.Shelf.Unicode.Decode
import Derived.Shelf.Strings.Runes
import Derived.Shelf.Strings.RuneCount
import Derived.Shelf.Strings.AsciiSet
import Derived.Shelf.Strings.Explode
import Derived.Shelf.Unicode.DecodeSlow
import Derived.Shelf.Unicode.DecodeAny
import Derived.Test.YtnbahdnjcdimgaaDoorProg
set_option linter.unusedSimpArgs false
set_option linter.unusedVariables false
namespace Go.Proofs.YtnbahdnjcdimgaaDoor.MkP
open Go.Proofs.YtnbahdnjcdimgaaDoor VaP
abbrev Str := List UInt8
/-- the first character as it is shown: whether it is wrong, what stands for it, how many bytes -/
def chr (s : Str) : Bool × Nat × Nat := if dec s = (65533, 1) ∨ charP (dec s).1 = false then (true, 63, (dec s).2) else (false, (dec s).1, (dec s).2)
theorem chr_n (s : Str) : (chr s).2.2 = (dec s).2 := by unfold chr; split <;> rfl
theorem dec_low {s : Str} (h : s ≠ []) (h0 : bt s 0 < 128) : dec s = (bt s 0, 1) := by
  rw [dec_eq h]; unfold Lib.decodeN; rw [if_pos h0]
theorem dec_high {s : Str} (h : s ≠ []) (h0 : 128 ≤ bt s 0) : 128 ≤ (dec s).1 ∧ ∀ i, i < (dec s).2 → 128 ≤ bt s i := by
  have b0 := bt_lt s 0
  rw [dec_eq h]
  unfold Lib.decodeN
  repeat' split
  all_goals refine ⟨by dsimp only; omega, fun i hi => ?_⟩
  all_goals (dsimp only at hi; obtain rfl | rfl | rfl | rfl : i = 0 ∨ i = 1 ∨ i = 2 ∨ i = 3 := by omega)
  all_goals omega
theorem chr_low {s : Str} (h : s ≠ []) (h0 : bt s 0 < 128) : chr s = if charP (bt s 0) = false then (true, 63, 1) else (false, bt s 0, 1) := by
  have e := dec_low h h0
  unfold chr
  rw [e]
  have : ¬ (bt s 0, 1) = (65533, 1) := fun e => by have := congrArg Prod.fst e; dsimp only at this; omega
  by_cases hc : charP (bt s 0) = false
  · rw [if_pos (.inr hc), if_pos hc]
  · rw [if_neg (by rintro (h | h); exact this h; exact hc h), if_neg hc]
/-- a character that is no wrong one and lies below 128 is the first byte -/
theorem chr_is {s : Str} (h : s ≠ []) (h1 : (chr s).1 = false) (h2 : (chr s).2.1 < 128) : bt s 0 = (chr s).2.1 ∧ (chr s).2.2 = 1 := by
  rcases Nat.lt_or_ge (bt s 0) 128 with h0 | h0
  · rw [chr_low h h0] at h1 h2 ⊢
    by_cases hc : charP (bt s 0) = false
    · rw [if_pos hc] at h1; cases h1
    · rw [if_neg hc] at h2 ⊢; exact ⟨rfl, rfl⟩
  · have := (dec_high h h0).1
    unfold chr at h1 h2
    by_cases hc : dec s = (65533, 1) ∨ charP (dec s).1 = false
    · rw [if_pos hc] at h1; cases h1
    · rw [if_neg hc] at h2; dsimp only at h2; omega
structure Tok where
  c : Nat
  n : Nat
  text : Bool
  bad : Bool
def Tok.is (t : Tok) (c : Nat) : Bool := !t.text && (!t.bad && decide (t.c = c))
def tok (s : Str) : Tok := if bt s 0 = 92 ∧ 1 < s.length then ⟨(chr (s.drop 1)).2.1, (chr (s.drop 1)).2.2 + 1, true, (chr (s.drop 1)).1⟩ else ⟨(chr s).2.1, (chr s).2.2, false, (chr s).1⟩
theorem tok_n {s : Str} (h : s ≠ []) : 1 ≤ (tok s).n ∧ (tok s).n ≤ s.length := by
  unfold tok
  split
  · rename_i h1
    have h2 : s.drop 1 ≠ [] := fun e => by have := congrArg List.length e; simp at this; omega
    have := dec_len h2
    simp only [chr_n, List.length_drop] at *
    omega
  · have := dec_len h
    simp only [chr_n]
    exact this
theorem tok_esc {s : Str} (h : bt s 0 = 92) (h1 : 1 < s.length) : tok s = ⟨(chr (s.drop 1)).2.1, (chr (s.drop 1)).2.2 + 1, true, (chr (s.drop 1)).1⟩ := by unfold tok; rw [if_pos ⟨h, h1⟩]
theorem tok_one {s : Str} (h : ¬ (bt s 0 = 92 ∧ 1 < s.length)) : tok s = ⟨(chr s).2.1, (chr s).2.2, false, (chr s).1⟩ := by unfold tok; rw [if_neg h]
theorem is_esc {s : Str} (h : bt s 0 = 92) (h1 : 1 < s.length) (c : Nat) : (tok s).is c = false := by rw [tok_esc h h1]; rfl
theorem is_iff {s : Str} (h : s ≠ []) {c : Nat} (hc : c < 128) (hp : charP c = true) (h92 : c ≠ 92) : (tok s).is c = decide (bt s 0 = c) := by
  by_cases he : bt s 0 = 92 ∧ 1 < s.length
  · rw [is_esc he.1 he.2, decide_eq_false (by omega)]
  · rw [tok_one he]
    show (!false && (!(chr s).1 && decide ((chr s).2.1 = c))) = _
    by_cases hb : bt s 0 = c
    · rw [chr_low h (by omega), hb, if_neg (by rw [hp]; simp)]; simp
    · rw [decide_eq_false hb]
      by_cases h1 : (chr s).1 = false
      · have h2 : ¬ (chr s).2.1 = c := fun e => hb (by have := (chr_is h h1 (by omega)).1; omega)
        rw [decide_eq_false h2]; simp
      · have h1 : (chr s).1 = true := by simpa using h1
        rw [h1]; simp
/-- a byte that is marked stands in one character -/
theorem is_n {s : Str} (h : s ≠ []) {c : Nat} (hc : c < 128) (hi : (tok s).is c = true) : (tok s).n = 1 := by
  by_cases he : bt s 0 = 92 ∧ 1 < s.length
  · rw [is_esc he.1 he.2] at hi; cases hi
  · rw [tok_one he] at hi ⊢
    have hi : (!false && (!(chr s).1 && decide ((chr s).2.1 = c))) = true := hi
    simp only [Bool.not_false, Bool.true_and, Bool.and_eq_true, Bool.not_eq_true', decide_eq_true_eq] at hi
    exact (chr_is h hi.1 (by omega)).2
def tokF : Nat → Str → List Tok
  | 0, _ => []
  | n + 1, s => if s = [] then [] else tok s :: tokF n (s.drop (tok s).n)
def toks (s : Str) : List Tok := tokF s.length s
theorem tokF_more : ∀ (n m : Nat) (s : Str), s.length ≤ n → n ≤ m → tokF m s = tokF n s
  | 0, m, s, h, _ => by
    have : s = [] := List.eq_nil_of_length_eq_zero (by omega)
    subst this
    cases m with
    | zero => rfl
    | succ m => simp [tokF]
  | n + 1, 0, s, _, h => by omega
  | n + 1, m + 1, s, h, hm => by
    unfold tokF
    by_cases hs : s = []
    · rw [if_pos hs, if_pos hs]
    · rw [if_neg hs, if_neg hs]
      have := tok_n hs
      rw [tokF_more n m (s.drop (tok s).n) (by rw [List.length_drop]; omega) (by omega)]
theorem toks_nil : toks [] = [] := rfl
theorem toks_step {s : Str} (hs : s ≠ []) : toks s = tok s :: toks (s.drop (tok s).n) := by
  have h0 : 0 < s.length := List.length_pos_iff.2 hs
  have hd := tok_n hs
  unfold toks
  obtain ⟨n, hn⟩ : ∃ n, s.length = n + 1 := ⟨s.length - 1, by omega⟩
  rw [hn]
  show (if s = [] then [] else _) = _
  rw [if_neg hs, tokF_more (s.drop (tok s).n).length n _ (Nat.le_refl _) (by rw [List.length_drop]; omega)]
theorem toks_len : ∀ (n : Nat) (s : Str), s.length ≤ n → (toks s).length ≤ s.length
  | 0, s, h => by
    have : s = [] := List.eq_nil_of_length_eq_zero (by omega)
    subst this; exact Nat.le_refl _
  | n + 1, s, h => by
    by_cases hs : s = []
    · subst hs; exact Nat.le_refl _
    · have hd := tok_n hs
      rw [toks_step hs, List.length_cons]
      have := toks_len n (s.drop (tok s).n) (by rw [List.length_drop]; omega)
      rw [List.length_drop] at this
      omega
/-- whether the first of some characters is a mark -/
def hd (l : List Tok) (c : Nat) : Bool := match l with
  | [] => false
  | t :: _ => t.is c
theorem hd_iff {s : Str} {c : Nat} (hc : c < 128) (hp : charP c = true) (h92 : c ≠ 92) : hd (toks s) c = decide (bt s 0 = c ∧ s ≠ []) := by
  by_cases hs : s = []
  · subst hs; rw [toks_nil]; simp [hd]
  · rw [toks_step hs]
    show (tok s).is c = _
    rw [is_iff hs hc hp h92]
    simp [hs]
theorem bt_drop (s : Str) (i j : Nat) : bt (s.drop i) j = bt s (i + j) := by
  unfold bt; rw [List.getD_eq_getElem?_getD, List.getD_eq_getElem?_getD, List.getElem?_drop]
theorem bt_ne {s : Str} {i : Nat} (h : bt s i ≠ 0) : i < s.length := by
  rcases Nat.lt_or_ge i s.length with h1 | h1
  · exact h1
  · exact absurd (by unfold bt; rw [List.getD_eq_getElem?_getD, List.getElem?_eq_none h1]; rfl) h
/-- where the text of a link ends: what begins with ]( -/
def tgA : Nat → Str → Option Str
  | 0, _ => none
  | n + 1, s => if s = [] ∨ bt s 0 = 91 then none else if bt s 0 = 92 then tgA n (s.drop 2) else if bt s 0 = 93 ∧ bt s 1 = 40 then some s else tgA n (s.drop 1)
/-- the target of a link and what follows -/
def tgB : Nat → Str → Str → Option (Str × Str)
  | 0, _, _ => none
  | n + 1, s, acc => if s = [] ∨ 200 < acc.length then none else if bt s 0 = 41 then (if acc = [] then none else some (acc, s.drop 1))
    else if bt s 0 = 92 then (if 1 < s.length ∧ 32 ≤ bt s 1 ∧ bt s 1 ≤ 126 then tgB n (s.drop 2) (acc ++ [s.getD 1 0]) else none)
    else if 32 ≤ bt s 0 ∧ bt s 0 ≤ 126 then tgB n (s.drop 1) (acc ++ [s.getD 0 0]) else none
def lkA : List Tok → Option (List Tok)
  | [] => none
  | y :: r => if y.is 91 then none else if y.is 93 && hd r 40 then some (y :: r) else lkA r
def lkB : List Tok → Str → Option (Str × List Tok)
  | [], _ => none
  | y :: r, acc => if y.is 41 then (if acc = [] ∨ 200 < acc.length then none else some (acc, r)) else if y.bad ∨ y.c < 32 ∨ 126 < y.c ∨ y.is 92 then none else lkB r (acc ++ [UInt8.ofNat y.c])
theorem tgA_more : ∀ (n m : Nat) (s : Str), s.length < n → n ≤ m → tgA m s = tgA n s
  | 0, m, s, h, _ => by omega
  | n + 1, 0, s, _, h => by omega
  | n + 1, m + 1, s, h, hm => by
    unfold tgA
    by_cases hs : s = [] ∨ bt s 0 = 91
    · rw [if_pos hs, if_pos hs]
    · have h0 : 0 < s.length := List.length_pos_iff.2 (fun e => hs (.inl e))
      rw [if_neg hs, if_neg hs]
      by_cases h2 : bt s 0 = 92
      · rw [if_pos h2, if_pos h2]
        by_cases h3 : s.length = 1
        · have e : s.drop 2 = [] := List.drop_eq_nil_of_le (by omega)
          rw [e]
          obtain ⟨n', rfl⟩ : ∃ n', n = n' + 1 := ⟨n - 1, by omega⟩
          obtain ⟨m', rfl⟩ : ∃ m', m = m' + 1 := ⟨m - 1, by omega⟩
          unfold tgA
          rw [if_pos (.inl rfl), if_pos (.inl rfl)]
        · exact tgA_more n m _ (by rw [List.length_drop]; omega) (by omega)
      · rw [if_neg h2, if_neg h2, tgA_more n m _ (by rw [List.length_drop]; omega) (by omega)]
/-- bytes that are no marks are passed by -/
theorem tgA_pass : ∀ (k n : Nat) (s : Str), k ≤ s.length → (∀ i, i < k → 128 ≤ bt s i) → s.length < n → tgA n s = tgA n (s.drop k)
  | 0, n, s, _, _, _ => rfl
  | k + 1, n, s, hk, hb, hn => by
    have b0 := hb 0 (by omega)
    have h0 : s ≠ [] := fun e => by subst e; simp at hk
    have e1 : tgA n s = tgA n (s.drop 1) := by
      obtain ⟨m, rfl⟩ : ∃ m, n = m + 1 := ⟨n - 1, by omega⟩
      conv => lhs; unfold tgA
      rw [if_neg (by rintro (h | h); exact h0 h; omega), if_neg (by omega), if_neg (by omega)]
      exact (tgA_more m (m + 1) _ (by rw [List.length_drop]; omega) (by omega)).symm
    rw [e1, tgA_pass k n (s.drop 1) (by rw [List.length_drop]; omega) (fun i hi => by rw [bt_drop]; exact hb _ (by omega)) (by rw [List.length_drop]; omega), List.drop_drop, Nat.add_comm]
/-- reading on by characters -/
inductive Rch : Str → Str → Prop
  | refl (s : Str) : Rch s s
  | step {s u : Str} : s ≠ [] → Rch (s.drop (tok s).n) u → Rch s u
theorem Rch.le {s u : Str} (h : Rch s u) : (s = u) ∨ (u.length < s.length ∧ (toks u).length < (toks s).length) := by
  induction h with
  | refl s => exact .inl rfl
  | @step s u h0 _ ih =>
    have hd := tok_n h0
    have e := toks_step h0
    have e2 : (s.drop (tok s).n).length = s.length - (tok s).n := List.length_drop
    right
    rw [e, List.length_cons]
    rcases ih with rfl | ih
    · omega
    · omega
theorem Rch.next {s u : Str} (h : Rch s u) (hne : s ≠ u) : s ≠ [] ∧ Rch (s.drop (tok s).n) u := by
  cases h with
  | refl => exact absurd rfl hne
  | step h0 h1 => exact ⟨h0, h1⟩
/-- the end of a link's text, by bytes and by characters -/
theorem tgA_lk : ∀ (n : Nat) (s : Str), s.length < n → (tgA n s = none ∧ lkA (toks s) = none) ∨ ∃ u, tgA n s = some u ∧ lkA (toks s) = some (toks u) ∧ Rch s u ∧ bt u 0 = 93 ∧ bt u 1 = 40
  | 0, s, h => by omega
  | n + 1, s, h => by
    by_cases hs : s = []
    · subst hs
      refine .inl ⟨?_, rfl⟩
      unfold tgA; rw [if_pos (.inl rfl)]
    have hn := tok_n hs
    have h91 := is_iff hs (c := 91) (by omega) (by decide) (by omega)
    have h93 := is_iff hs (c := 93) (by omega) (by decide) (by omega)
    have et := toks_step hs
    by_cases h1 : bt s 0 = 91
    · refine .inl ⟨by unfold tgA; rw [if_pos (.inr h1)], ?_⟩
      rw [et]; unfold lkA; rw [h91, decide_eq_true h1, if_pos rfl]
    rw [decide_eq_false h1] at h91
    have key : (bt s 0 = 93 ∧ bt s 1 = 40) ∨ (¬ (bt s 0 = 93 ∧ bt s 1 = 40) ∧ tgA (n + 1) s = tgA n (s.drop (tok s).n) ∧ ((tok s).is 93 && hd (toks (s.drop (tok s).n)) 40) = false) := by
      by_cases h2 : bt s 0 = 92
      · refine .inr ⟨by omega, ?_, by rw [h93, decide_eq_false (by omega)]; rfl⟩
        conv => lhs; unfold tgA
        rw [if_neg (by rintro (q | q); exact hs q; omega), if_pos h2]
        by_cases h3 : 1 < s.length
        · rw [tok_esc h2 h3]
          have h4 : s.drop 1 ≠ [] := fun e => by have := congrArg List.length e; simp at this; omega
          have hd4 := dec_len h4
          dsimp only
          rw [chr_n]
          rcases Nat.lt_or_ge (bt (s.drop 1) 0) 128 with q | q
          · rw [dec_low h4 q]
          · have hh := (dec_high h4 q).2
            rw [show s.drop ((dec (s.drop 1)).2 + 1) = (s.drop 2).drop ((dec (s.drop 1)).2 - 1) by rw [List.drop_drop]; congr 1; omega]
            refine tgA_pass _ _ _ ?_ (fun i hi => ?_) ?_
            · simp only [List.length_drop] at *; omega
            · have := hh (i + 1) (by omega)
              rw [bt_drop] at this ⊢
              rw [show 2 + i = 1 + (i + 1) by omega]; exact this
            · simp only [List.length_drop]; omega
        · rw [tok_one (fun e => h3 e.2)]
          have h4 : s.length = 1 := by have := List.length_pos_iff.2 hs; omega
          rw [List.drop_eq_nil_of_le (show s.length ≤ 2 by omega)]
          dsimp only
          rw [chr_n, dec_low hs (by omega)]
          rw [List.drop_eq_nil_of_le (show s.length ≤ 1 by omega)]
      · by_cases h5 : bt s 0 = 93 ∧ bt s 1 = 40
        · exact .inl h5
        · refine .inr ⟨h5, ?_, ?_⟩
          · conv => lhs; unfold tgA
            rw [if_neg (by rintro (q | q); exact hs q; omega), if_neg h2, if_neg h5]
            rw [tok_one (fun e => h2 e.1)]
            dsimp only
            rw [chr_n]
            have hd4 := dec_len hs
            rcases Nat.lt_or_ge (bt s 0) 128 with q | q
            · rw [dec_low hs q]
            · have hh := (dec_high hs q).2
              rw [show s.drop (dec s).2 = (s.drop 1).drop ((dec s).2 - 1) by rw [List.drop_drop]; congr 1; omega]
              refine tgA_pass _ _ _ ?_ (fun i hi => ?_) ?_
              · simp only [List.length_drop] at *; omega
              · have := hh (1 + i) (by omega)
                rw [bt_drop]; exact this
              · have := List.length_pos_iff.2 hs; simp only [List.length_drop]; omega
          · by_cases h6 : bt s 0 = 93
            · rw [h93, decide_eq_true h6, is_n hs (c := 93) (by omega) (by rw [h93, decide_eq_true h6]), hd_iff (by omega) (by decide) (by omega), bt_drop]
              simp only [Bool.true_and, decide_eq_false_iff_not]
              exact fun e => h5 ⟨h6, e.1⟩
            · rw [h93, decide_eq_false h6]; rfl
    rcases key with ⟨k1, k2⟩ | ⟨k1, k2, k3⟩
    · refine .inr ⟨s, ?_, ?_, .refl s, k1, k2⟩
      · unfold tgA
        rw [if_neg (by rintro (q | q); exact hs q; omega), if_neg (by omega), if_pos ⟨k1, k2⟩]
      · have hl : 1 < s.length := bt_ne (by omega)
        rw [et]
        unfold lkA
        rw [h91, if_neg (by simp), is_n hs (c := 93) (by omega) (by rw [h93, decide_eq_true k1]), hd_iff (by omega) (by decide) (by omega), bt_drop, h93, decide_eq_true k1, decide_eq_true (show bt s (1 + 0) = 40 ∧ s.drop 1 ≠ [] from ⟨k2, fun e => by have := congrArg List.length e; simp at this; omega⟩)]
        rfl
    · have ih := tgA_lk n (s.drop (tok s).n) (by rw [List.length_drop]; omega)
      have e2 : lkA (toks s) = lkA (toks (s.drop (tok s).n)) := by
        rw [et]; conv => lhs; unfold lkA
        rw [h91, if_neg (by simp), k3, if_neg (by simp)]
      rw [k2, e2]
      rcases ih with ih | ⟨u, i1, i2, i3, i4⟩
      · exact .inl ih
      · exact .inr ⟨u, i1, i2, .step hs i3, i4⟩
theorem lkB_long : ∀ (l : List Tok) (acc : Str), 200 < acc.length → lkB l acc = none
  | [], _, _ => rfl
  | y :: r, acc, h => by
    unfold lkB
    rw [lkB_long r _ (by simp; omega)]
    repeat' split
    all_goals first | rfl | (exfalso; rename_i q; exact q (.inr h)) | skip
theorem ofNat_bt (s : Str) (i : Nat) : UInt8.ofNat (bt s i) = s.getD i 0 := by unfold bt; simp
theorem char_plain {c : Nat} (h : 32 ≤ c) (h2 : c ≤ 126) : charP c = true := by
  unfold charP
  rw [decide_eq_true h, decide_eq_true (show c < 127 by omega)]
  simp
theorem chr_out {s : Str} (hs : s ≠ []) (h : ¬ (32 ≤ bt s 0 ∧ bt s 0 ≤ 126)) : (chr s).1 = true ∨ (chr s).2.1 < 32 ∨ 126 < (chr s).2.1 := by
  rcases Nat.lt_or_ge (bt s 0) 128 with q | q
  · rw [chr_low hs q]
    split
    · exact .inl rfl
    · right; dsimp only; omega
  · have := (dec_high hs q).1
    unfold chr
    split
    · exact .inl rfl
    · right; right; dsimp only; omega
theorem tgB_lk : ∀ (n : Nat) (s acc : Str), s.length < n → (tgB n s acc = none ∧ lkB (toks s) acc = none) ∨ ∃ t r, tgB n s acc = some (t, r) ∧ lkB (toks s) acc = some (t, toks r) ∧ t ≠ [] ∧ t.length ≤ 200 ∧ r.length < s.length
  | 0, s, _, h => by omega
  | n + 1, s, acc, h => by
    by_cases hl : 200 < acc.length
    · refine .inl ⟨?_, lkB_long _ _ hl⟩
      unfold tgB; rw [if_pos (.inr hl)]
    by_cases hs : s = []
    · subst hs
      refine .inl ⟨?_, rfl⟩
      unfold tgB; rw [if_pos (.inl rfl)]
    have h0 := List.length_pos_iff.2 hs
    have et := toks_step hs
    have h41 := is_iff hs (c := 41) (by omega) (by decide) (by omega)
    have hn : ¬ (s = [] ∨ 200 < acc.length) := by rintro (q | q); exact hs q; exact hl q
    have on : ∀ (s' : Str) (x : UInt8), s'.length < s.length → tgB (n + 1) s acc = tgB n s' (acc ++ [x]) → lkB (toks s) acc = lkB (toks s') (acc ++ [x]) → (tgB (n + 1) s acc = none ∧ lkB (toks s) acc = none) ∨ ∃ t r, tgB (n + 1) s acc = some (t, r) ∧ lkB (toks s) acc = some (t, toks r) ∧ t ≠ [] ∧ t.length ≤ 200 ∧ r.length < s.length := fun s' x q1 q2 q3 => by
      rw [q2, q3]
      rcases tgB_lk n s' (acc ++ [x]) (by omega) with ih | ⟨t, r, i1, i2, i3, i4, i5⟩
      · exact .inl ih
      · exact .inr ⟨t, r, i1, i2, i3, i4, by omega⟩
    have bad : ¬ bt s 0 = 41 → ((tok s).bad = true ∨ (tok s).c < 32 ∨ 126 < (tok s).c ∨ (tok s).is 92 = true) → lkB (toks s) acc = none := fun q1 q2 => by
      rw [et]; unfold lkB
      rw [h41, decide_eq_false q1, if_neg (by simp), if_pos q2]
    have good : ¬ bt s 0 = 41 → ¬ ((tok s).bad = true ∨ (tok s).c < 32 ∨ 126 < (tok s).c ∨ (tok s).is 92 = true) → lkB (toks s) acc = lkB (toks (s.drop (tok s).n)) (acc ++ [UInt8.ofNat (tok s).c]) := fun q1 q2 => by
      rw [et]; conv => lhs; unfold lkB
      rw [h41, decide_eq_false q1, if_neg (by simp), if_neg q2]
    by_cases h1 : bt s 0 = 41
    · have e1 : tgB (n + 1) s acc = if acc = [] then none else some (acc, s.drop 1) := by
        conv => lhs; unfold tgB
        rw [if_neg hn, if_pos h1]
      have e2 : lkB (toks s) acc = if acc = [] ∨ 200 < acc.length then none else some (acc, toks (s.drop 1)) := by
        rw [et]; conv => lhs; unfold lkB
        rw [h41, decide_eq_true h1, if_pos rfl, is_n hs (c := 41) (by omega) (by rw [h41, decide_eq_true h1])]
      rw [e1, e2]
      by_cases ha : acc = []
      · exact .inl ⟨if_pos ha, if_pos (.inl ha)⟩
      · exact .inr ⟨acc, s.drop 1, if_neg ha, if_neg (by rintro (q | q); exact ha q; exact hl q), ha, by omega, by rw [List.length_drop]; omega⟩
    by_cases h2 : bt s 0 = 92
    · by_cases h3 : 1 < s.length
      · have hs1 : s.drop 1 ≠ [] := fun e => by have := congrArg List.length e; simp at this; omega
        have etk := tok_esc h2 h3
        have hb1 : bt (s.drop 1) 0 = bt s 1 := bt_drop s 1 0
        by_cases h4 : 32 ≤ bt s 1 ∧ bt s 1 ≤ 126
        · have ec := chr_low hs1 (by omega)
          rw [hb1, char_plain h4.1 h4.2, if_neg (by simp)] at ec
          rw [ec] at etk
          dsimp only at etk
          refine on (s.drop 2) (s.getD 1 0) (by rw [List.length_drop]; omega) ?_ ?_
          · conv => lhs; unfold tgB
            rw [if_neg hn, if_neg h1, if_pos h2, if_pos ⟨h3, h4⟩]
          · rw [good h1 (by rw [etk]; show ¬ (false = true ∨ bt s 1 < 32 ∨ 126 < bt s 1 ∨ false = true); simp; omega), etk, ← ofNat_bt]
        · refine .inl ⟨?_, bad h1 ?_⟩
          · unfold tgB
            rw [if_neg hn, if_neg h1, if_pos h2, if_neg (fun q => h4 q.2)]
          · rw [etk]
            rcases chr_out hs1 (by rw [hb1]; exact h4) with q | q | q
            · exact .inl q
            · exact .inr (.inl q)
            · exact .inr (.inr (.inl q))
      · refine .inl ⟨?_, bad h1 (.inr (.inr (.inr ?_)))⟩
        · unfold tgB
          rw [if_neg hn, if_neg h1, if_pos h2, if_neg (fun q => h3 q.1)]
        · rw [tok_one (fun e => h3 e.2), chr_low hs (by omega), h2]; decide
    · have etk := tok_one (s := s) (fun e => h2 e.1)
      by_cases h4 : 32 ≤ bt s 0 ∧ bt s 0 ≤ 126
      · have ec := chr_low hs (by omega)
        rw [char_plain h4.1 h4.2, if_neg (by simp)] at ec
        rw [ec] at etk
        dsimp only at etk
        refine on (s.drop 1) (s.getD 0 0) (by rw [List.length_drop]; omega) ?_ ?_
        · conv => lhs; unfold tgB
          rw [if_neg hn, if_neg h1, if_neg h2, if_pos h4]
        · rw [good h1 (by rw [etk]; show ¬ (false = true ∨ bt s 0 < 32 ∨ 126 < bt s 0 ∨ (true && (true && decide (bt s 0 = 92))) = true); simp; omega), etk, ← ofNat_bt]
      · refine .inl ⟨?_, bad h1 ?_⟩
        · unfold tgB
          rw [if_neg hn, if_neg h1, if_neg h2, if_neg h4]
        · rw [etk]
          rcases chr_out hs h4 with q | q | q
          · exact .inl q
          · exact .inr (.inl q)
          · exact .inr (.inr (.inl q))
/-- a link: its target, what stands at its ](, what follows -/
def target (s : Str) : Option (Str × Str × Str) := match tgA (s.length + 1) s with
  | none => none
  | some u => match tgB u.length (u.drop 2) [] with
    | none => none
    | some (t, r) => some (t, u, r)
def linkT (l : List Tok) : Option (Str × List Tok × List Tok) := match lkA l with
  | none => none
  | some m => match lkB (m.drop 2) [] with
    | none => none
    | some (t, b) => some (t, m, b)
theorem target_lk (s : Str) : (target s = none ∧ linkT (toks s) = none) ∨ ∃ t u r, target s = some (t, u, r) ∧ linkT (toks s) = some (t, toks u, toks r) ∧ t ≠ [] ∧ t.length ≤ 200 ∧ Rch s u ∧ bt u 0 = 93 ∧ r.length < u.length := by
  unfold target linkT
  rcases tgA_lk (s.length + 1) s (Nat.lt_succ_self _) with ⟨h1, h2⟩ | ⟨u, h1, h2, h3, h4, h5⟩
  · rw [h1, h2]; exact .inl ⟨rfl, rfl⟩
  · rw [h1, h2]
    have hu : u ≠ [] := fun e => by subst e; cases h4
    have hl : 1 < u.length := bt_ne (by omega)
    have hu1 : u.drop 1 ≠ [] := fun e => by have := congrArg List.length e; simp at this; omega
    have e1 := is_n hu (c := 93) (by omega) (by rw [is_iff hu (by omega) (by decide) (by omega), decide_eq_true h4])
    have e2 := is_n hu1 (c := 40) (by omega) (by rw [is_iff hu1 (by omega) (by decide) (by omega), bt_drop, decide_eq_true h5])
    have e3 : (toks u).drop 2 = toks (u.drop 2) := by
      rw [toks_step hu, e1, toks_step hu1, e2, List.drop_drop]; rfl
    dsimp only
    rw [e3]
    rcases tgB_lk u.length (u.drop 2) [] (by rw [List.length_drop]; omega) with ⟨i1, i2⟩ | ⟨t, r, i1, i2, i3, i4, i5⟩
    · rw [i1, i2]; exact .inl ⟨rfl, rfl⟩
    · rw [i1, i2]
      exact .inr ⟨t, u, r, rfl, rfl, i3, i4, h3, h4, by rw [List.length_drop] at i5; omega⟩
def nBold : Str := [98, 111, 108, 100]
def nFixed : Str := [102, 105, 120, 101, 100]
def nItalic : Str := [105, 116, 97, 108, 105, 99]
def nLink : Str := [108, 105, 110, 107]
def nStrike : Str := [115, 116, 114, 105, 107, 101]
def vOn : Str := [111, 110]
/-- the attributes of a character -/
def ats (o0 o1 o2 o3 : Bool) (link : Str) : List (Str × Str) := (if o0 then [(nBold, vOn)] else []) ++ ((if o3 then [(nFixed, vOn)] else []) ++ ((if o1 then [(nItalic, vOn)] else []) ++ ((if link = [] then [] else [(nLink, link)]) ++ (if o2 then [(nStrike, vOn)] else []))))
abbrev Itm := Bool × Nat × List (Str × Str)
structure PS where
  s : Str
  o0 : Bool
  o1 : Bool
  o2 : Bool
  o3 : Bool
  link : Str
  stop : Option Nat
  aft : Str
structure RS where
  l : List Tok
  o0 : Bool
  o1 : Bool
  o2 : Bool
  o3 : Bool
  link : Str
  e : Option Nat
  beh : List Tok
/-- a line, byte by byte -/
def pl : Nat → PS → List Itm
  | 0, _ => []
  | n + 1, t => if t.s = [] then [] else if t.stop = some t.s.length then pl n { t with s := t.aft, link := [], stop := none }
    else if bt t.s 0 = 92 ∧ 1 < t.s.length then ((chr (t.s.drop 1)).1, (chr (t.s.drop 1)).2.1, ats t.o0 t.o1 t.o2 t.o3 t.link) :: pl n { t with s := t.s.drop ((chr (t.s.drop 1)).2.2 + 1) }
    else if bt t.s 0 = 42 ∧ bt t.s 1 = 42 then pl n { t with s := t.s.drop 2, o0 := !t.o0 }
    else if bt t.s 0 = 42 then pl n { t with s := t.s.drop 1, o1 := !t.o1 }
    else if bt t.s 0 = 126 ∧ bt t.s 1 = 126 then pl n { t with s := t.s.drop 2, o2 := !t.o2 }
    else if bt t.s 0 = 96 then pl n { t with s := t.s.drop 1, o3 := !t.o3 }
    else match (if bt t.s 0 = 91 ∧ t.link = [] then target (t.s.drop 1) else none) with
      | some (tx, u, r) => pl n { t with s := t.s.drop 1, link := tx, stop := some u.length, aft := r }
      | none => ((chr t.s).1, (chr t.s).2.1, ats t.o0 t.o1 t.o2 t.o3 t.link) :: pl n { t with s := t.s.drop (chr t.s).2.2 }
/-- a line, by its characters -/
def rl : Nat → RS → List Itm
  | 0, _ => []
  | n + 1, t => match t.l with
    | [] => []
    | x :: r => if t.e = some (r.length + 1) then rl n { t with l := t.beh, link := [], e := none }
      else if (x.is 42 && hd r 42) = true then rl n { t with l := r.drop 1, o0 := !t.o0 }
      else if x.is 42 = true then rl n { t with l := r, o1 := !t.o1 }
      else if (x.is 126 && hd r 126) = true then rl n { t with l := r.drop 1, o2 := !t.o2 }
      else if x.is 96 = true then rl n { t with l := r, o3 := !t.o3 }
      else match (if x.is 91 = true ∧ t.link = [] then linkT r else none) with
        | some (tx, m, b) => rl n { t with l := r, link := tx, e := some m.length, beh := b }
        | none => (x.bad, x.c, ats t.o0 t.o1 t.o2 t.o3 t.link) :: rl n { t with l := r }
structure Sim (p : PS) (r : RS) : Prop where
  l : r.l = toks p.s
  o0 : r.o0 = p.o0
  o1 : r.o1 = p.o1
  o2 : r.o2 = p.o2
  o3 : r.o3 = p.o3
  link : r.link = p.link
  e : (p.stop = none ∧ r.e = none) ∨ ∃ u, p.stop = some u.length ∧ r.e = some (toks u).length ∧ Rch p.s u ∧ bt u 0 = 93 ∧ r.beh = toks p.aft ∧ p.aft.length < u.length
theorem sim : ∀ (n : Nat) (p : PS) (r : RS), Sim p r → p.s.length < n → rl n r = pl n p
  | 0, p, r, _, h => by omega
  | n + 1, ⟨s, _, _, _, _, _, stop, aft⟩, ⟨l, o0, o1, o2, o3, link, e, beh⟩, ⟨hl, h0, h1, h2, h3, hk, he⟩, h => by
    dsimp only at hl h0 h1 h2 h3 hk he h
    subst hl h0 h1 h2 h3 hk
    by_cases hs : s = []
    · subst hs; rfl
    have hn := tok_n hs
    have et := toks_step hs
    have hpos := List.length_pos_iff.2 hs
    unfold rl pl
    dsimp only
    rw [et, if_neg hs]
    dsimp only
    by_cases hst : stop = some s.length
    · rcases he with ⟨e1, e2⟩ | ⟨u, e1, e2, e3, e4, e5, e6⟩
      · rw [e1] at hst; cases hst
      · have hsu : s = u := by
          rcases e3.le with q | q
          · exact q
          · rw [e1] at hst; injection hst; omega
        subst hsu
        rw [if_pos hst, e2, et, if_pos (by rw [List.length_cons])]
        exact sim n _ _ ⟨e5, rfl, rfl, rfl, rfl, rfl, .inl ⟨rfl, rfl⟩⟩ (by dsimp only; omega)
    have hne : ¬ e = some ((toks (s.drop (tok s).n)).length + 1) := fun q => by
      rcases he with ⟨e1, e2⟩ | ⟨u, e1, e2, e3, e4, e5, e6⟩
      · rw [e2] at q; cases q
      · rcases e3.le with rfl | w
        · exact hst e1
        · rw [e2] at q; injection q with q
          rw [et, List.length_cons] at w; omega
    rw [if_neg hst, if_neg hne]
    have he1 : (stop = none ∧ e = none) ∨ ∃ u, stop = some u.length ∧ e = some (toks u).length ∧ Rch (s.drop (tok s).n) u ∧ bt u 0 = 93 ∧ beh = toks aft ∧ aft.length < u.length := by
      rcases he with q | ⟨u, e1, e2, e3, e4, e5, e6⟩
      · exact .inl q
      · refine .inr ⟨u, e1, e2, (e3.next (fun q => ?_)).2, e4, e5, e6⟩
        rw [q] at hst; exact hst e1
    have he2 : (tok s).n = 1 → ∀ c, c < 128 → bt s 1 = c → c ≠ 93 → (tok (s.drop 1)).is c = true → (stop = none ∧ e = none) ∨ ∃ u, stop = some u.length ∧ e = some (toks u).length ∧ Rch (s.drop 2) u ∧ bt u 0 = 93 ∧ beh = toks aft ∧ aft.length < u.length := fun q1 c q2 q3 q4 q5 => by
      rcases he1 with q | ⟨u, e1, e2, e3, e4, e5, e6⟩
      · exact .inl q
      · rw [q1] at e3
        have w := e3.next (fun q => by rw [← q, bt_drop] at e4; exact q4 (q3.symm.trans e4))
        rw [is_n w.1 q2 q5, List.drop_drop] at w
        exact .inr ⟨u, e1, e2, w.2, e4, e5, e6⟩
    have two : ∀ c, c < 128 → charP c = true → c ≠ 92 → c ≠ 93 → bt s 0 = c → bt s 1 = c → c ≠ 0 → s.drop 1 ≠ [] ∧ (tok s).n = 1 ∧ (tok (s.drop 1)).is c = true ∧ (toks (s.drop (tok s).n)).drop 1 = toks (s.drop 2) := fun c q1 q2 q3 q4 q5 q6 q7 => by
      have hl : 1 < s.length := bt_ne (by omega)
      have hu1 : s.drop 1 ≠ [] := fun e => by have := congrArg List.length e; simp at this; omega
      have e1 := is_n hs (c := c) q1 (by rw [is_iff hs q1 q2 q3, decide_eq_true q5])
      have e2 : (tok (s.drop 1)).is c = true := by rw [is_iff hu1 q1 q2 q3, bt_drop, decide_eq_true q6]
      refine ⟨hu1, e1, e2, ?_⟩
      rw [e1, toks_step hu1, is_n hu1 q1 e2, List.drop_drop]; rfl
    have one : ∀ c, c < 128 → charP c = true → c ≠ 92 → bt s 0 = c → (tok s).n = 1 := fun c q1 q2 q3 q5 => is_n hs (c := c) q1 (by rw [is_iff hs q1 q2 q3, decide_eq_true q5])
    have dbl : ∀ c, c < 128 → charP c = true → c ≠ 92 → c ≠ 0 → (((tok s).is c && hd (toks (s.drop (tok s).n)) c) = true ↔ (bt s 0 = c ∧ bt s 1 = c)) := fun c q1 q2 q3 q4 => by
      rw [is_iff hs q1 q2 q3, hd_iff q1 q2 q3]
      simp only [Bool.and_eq_true, decide_eq_true_eq]
      constructor
      · rintro ⟨w1, w2, w3⟩
        rw [one c q1 q2 q3 w1, bt_drop] at w2
        exact ⟨w1, w2⟩
      · rintro ⟨w1, w2⟩
        rw [one c q1 q2 q3 w1, bt_drop]
        refine ⟨w1, w2, fun e => ?_⟩
        have := bt_ne (s := s) (i := 1) (by omega)
        have := congrArg List.length e; simp at this; omega
    have sgl : ∀ c, c < 128 → charP c = true → c ≠ 92 → ((tok s).is c = true ↔ bt s 0 = c) := fun c q1 q2 q3 => by rw [is_iff hs q1 q2 q3, decide_eq_true_eq]
    have ld : ∀ k, 1 ≤ k → (s.drop k).length < n := fun k q => by rw [List.length_drop]; omega
    by_cases h92 : bt s 0 = 92 ∧ 1 < s.length
    · rw [if_pos h92]
      have z := fun c => is_esc h92.1 h92.2 c
      rw [if_neg (by rw [z]; simp), if_neg (by rw [z]; simp), if_neg (by rw [z]; simp), if_neg (by rw [z]; simp), if_neg (by rw [z]; simp)]
      have ek := tok_esc h92.1 h92.2
      dsimp only
      rw [ek] at he1 ⊢
      dsimp only at he1 ⊢
      congr 1
      exact sim n _ _ ⟨rfl, rfl, rfl, rfl, rfl, rfl, he1⟩ (ld _ (by omega))
    rw [if_neg h92]
    by_cases a1 : bt s 0 = 42 ∧ bt s 1 = 42
    · rw [if_pos ((dbl 42 (by omega) (by decide) (by omega) (by omega)).2 a1), if_pos a1]
      obtain ⟨k1, k2, k3, k4⟩ := two 42 (by omega) (by decide) (by omega) (by omega) a1.1 a1.2 (by omega)
      exact sim n _ _ ⟨k4, rfl, rfl, rfl, rfl, rfl, he2 k2 42 (by omega) a1.2 (by omega) k3⟩ (ld 2 (by omega))
    rw [if_neg (fun q => a1 ((dbl 42 (by omega) (by decide) (by omega) (by omega)).1 q)), if_neg a1]
    by_cases a2 : bt s 0 = 42
    · rw [if_pos ((sgl 42 (by omega) (by decide) (by omega)).2 a2), if_pos a2]
      have k := one 42 (by omega) (by decide) (by omega) a2
      rw [k] at he1 ⊢
      exact sim n _ _ ⟨rfl, rfl, rfl, rfl, rfl, rfl, he1⟩ (ld 1 (by omega))
    rw [if_neg (fun q => a2 ((sgl 42 (by omega) (by decide) (by omega)).1 q)), if_neg a2]
    by_cases a3 : bt s 0 = 126 ∧ bt s 1 = 126
    · rw [if_pos ((dbl 126 (by omega) (by decide) (by omega) (by omega)).2 a3), if_pos a3]
      obtain ⟨k1, k2, k3, k4⟩ := two 126 (by omega) (by decide) (by omega) (by omega) a3.1 a3.2 (by omega)
      exact sim n _ _ ⟨k4, rfl, rfl, rfl, rfl, rfl, he2 k2 126 (by omega) a3.2 (by omega) k3⟩ (ld 2 (by omega))
    rw [if_neg (fun q => a3 ((dbl 126 (by omega) (by decide) (by omega) (by omega)).1 q)), if_neg a3]
    by_cases a4 : bt s 0 = 96
    · rw [if_pos ((sgl 96 (by omega) (by decide) (by omega)).2 a4), if_pos a4]
      have k := one 96 (by omega) (by decide) (by omega) a4
      rw [k] at he1 ⊢
      exact sim n _ _ ⟨rfl, rfl, rfl, rfl, rfl, rfl, he1⟩ (ld 1 (by omega))
    rw [if_neg (fun q => a4 ((sgl 96 (by omega) (by decide) (by omega)).1 q)), if_neg a4]
    have emit : (tok s).bad = (chr s).1 ∧ (tok s).c = (chr s).2.1 ∧ (tok s).n = (chr s).2.2 := by rw [tok_one h92]; exact ⟨rfl, rfl, rfl⟩
    have fin : ((tok s).bad, (tok s).c, ats o0 o1 o2 o3 link) :: rl n ⟨toks (s.drop (tok s).n), o0, o1, o2, o3, link, e, beh⟩ = ((chr s).1, (chr s).2.1, ats o0 o1 o2 o3 link) :: pl n ⟨s.drop (chr s).2.2, o0, o1, o2, o3, link, stop, aft⟩ := by
      rw [emit.1, emit.2.1, ← emit.2.2]
      congr 1
      exact sim n _ _ ⟨rfl, rfl, rfl, rfl, rfl, rfl, he1⟩ (ld _ hn.1)
    by_cases a5 : bt s 0 = 91 ∧ link = []
    · rw [if_pos ⟨(sgl 91 (by omega) (by decide) (by omega)).2 a5.1, a5.2⟩, if_pos a5]
      have k := one 91 (by omega) (by decide) (by omega) a5.1
      rcases target_lk (s.drop 1) with ⟨t1, t2⟩ | ⟨t, u, r, t1, t2, t3, t4, t5, t6, t7⟩
      · rw [k, t1, t2]
        dsimp only
        rw [k] at fin
        exact fin
      · rw [k, t1, t2]
        dsimp only
        exact sim n _ _ ⟨rfl, rfl, rfl, rfl, rfl, rfl, .inr ⟨u, rfl, rfl, t5, t6, rfl, t7⟩⟩ (ld 1 (by omega))
    · rw [if_neg (fun q => a5 ⟨(sgl 91 (by omega) (by decide) (by omega)).1 q.1, q.2⟩), if_neg a5]
      exact fin
/-- the characters of a line -/
def lineP (s : Str) : List Itm := pl (s.length + 1) ⟨s, false, false, false, false, [], none, []⟩
theorem line_same (s : Str) : rl (s.length + 1) ⟨toks s, false, false, false, false, [], none, []⟩ = lineP s := sim _ _ _ ⟨rfl, rfl, rfl, rfl, rfl, rfl, .inl ⟨rfl, rfl⟩⟩ (Nat.lt_succ_self _)
end Go.Proofs.YtnbahdnjcdimgaaDoor.MkP
namespace Go.Proofs
open Go.Shelf
def Tryd.lays170_ren : Go.Shelf.Ren := ⟨fun | 170 => 44 | n => n, fun | 70 => 85 | 3 => 3 | 0 => 0 | 72 => 87 | 37 => 62 | 5 => 5 | n => n, fun | n => n⟩
theorem Tryd.lays170 : Go.Proofs.Lays.n170 Tryd.prog Tryd.lays170_ren := {
  mixed := by kernel_rfl
  f170 := Tryd.func44.trans (congrArg some (by kernel_rfl))
  t0 := Tryd.underlying0
  a0 := Tryd.isAgg0
  z0 := Tryd.sizeOf0
  v0 := Tryd.zeroValue0
  t3 := Tryd.underlying3
  a3 := Tryd.isAgg3
  z3 := Tryd.sizeOf3
  v3 := Tryd.zeroValue3
  t37 := Tryd.underlying62
  a37 := Tryd.isAgg62
  z37 := Tryd.sizeOf62
  v37 := Tryd.zeroValue62
  t70 := Tryd.underlying85
  a70 := Tryd.isAgg85
  z70 := Tryd.sizeOf85
  v70 := Tryd.zeroValue85
  t72 := Tryd.underlying87
  a72 := Tryd.isAgg87
  z72 := Tryd.sizeOf87
  v72 := Tryd.zeroValue87 }
def Tryd.lays169_ren : Go.Shelf.Ren := ⟨fun | 169 => 45 | n => n, fun | 70 => 85 | 9 => 9 | 0 => 0 | 72 => 87 | 37 => 62 | 127 => 99 | 3 => 3 | 5 => 5 | n => n, fun | n => n⟩
theorem Tryd.lays169 : Go.Proofs.Lays.n169 Tryd.prog Tryd.lays169_ren := {
  mixed := by kernel_rfl
  f169 := Tryd.func45.trans (congrArg some (by kernel_rfl))
  t0 := Tryd.underlying0
  a0 := Tryd.isAgg0
  z0 := Tryd.sizeOf0
  v0 := Tryd.zeroValue0
  t3 := Tryd.underlying3
  a3 := Tryd.isAgg3
  z3 := Tryd.sizeOf3
  v3 := Tryd.zeroValue3
  t9 := Tryd.underlying9
  a9 := Tryd.isAgg9
  z9 := Tryd.sizeOf9
  v9 := Tryd.zeroValue9
  t37 := Tryd.underlying62
  a37 := Tryd.isAgg62
  z37 := Tryd.sizeOf62
  v37 := Tryd.zeroValue62
  t70 := Tryd.underlying85
  a70 := Tryd.isAgg85
  z70 := Tryd.sizeOf85
  v70 := Tryd.zeroValue85
  t72 := Tryd.underlying87
  a72 := Tryd.isAgg87
  z72 := Tryd.sizeOf87
  v72 := Tryd.zeroValue87
  t127 := Tryd.underlying99
  a127 := Tryd.isAgg99
  z127 := Tryd.sizeOf99
  v127 := Tryd.zeroValue99 }
theorem Tryd.Builder_Extra_169 : Builder.Extra Tryd.prog Tryd.lays169_ren := {
  sizeBuilder := by kernel_rfl
  liesBuilder := by kernel_rfl
  t5 := Tryd.underlying5
  a5 := Tryd.isAgg5
  z5 := Tryd.sizeOf5
  v5 := Tryd.zeroValue5
  infoByte := by kernel_rfl
  cellsByte := by kernel_rfl
  sizeByte := by kernel_rfl
  neB5 := by decide }
def Tryd.lays161_ren : Go.Shelf.Ren := ⟨fun | 161 => 22 | 231 => 35 | 227 => 36 | 233 => 37 | 235 => 38 | 228 => 52 | 197 => 41 | 151 => 53 | 260 => 54 | 152 => 63 | 137 => 70 | 119 => 71 | 224 => 61 | 225 => 60 | 217 => 59 | 266 => 68 | n => n, fun | 9 => 9 | 4 => 4 | 3 => 3 | 5 => 5 | 117 => 75 | 116 => 74 | 0 => 0 | 124 => 78 | 105 => 79 | 21 => 21 | 119 => 103 | 46 => 100 | 139 => 106 | 138 => 105 | n => n, fun | 3 => 2 | 4 => 3 | n => n⟩
theorem Tryd.lays161 : Go.Proofs.Lays.n161 Tryd.prog Tryd.lays161_ren := {
  mixed := by kernel_rfl
  f119 := Tryd.func71.trans (congrArg some (by kernel_rfl))
  f137 := Tryd.func70.trans (congrArg some (by kernel_rfl))
  f151 := Tryd.func53.trans (congrArg some (by kernel_rfl))
  f152 := Tryd.func63.trans (congrArg some (by kernel_rfl))
  f161 := Tryd.func22.trans (congrArg some (by kernel_rfl))
  f197 := Tryd.func41.trans (congrArg some (by kernel_rfl))
  f217 := Tryd.func59.trans (congrArg some (by kernel_rfl))
  f224 := Tryd.func61.trans (congrArg some (by kernel_rfl))
  f225 := Tryd.func60.trans (congrArg some (by kernel_rfl))
  f227 := Tryd.func36.trans (congrArg some (by kernel_rfl))
  f228 := Tryd.func52.trans (congrArg some (by kernel_rfl))
  f231 := Tryd.func35.trans (congrArg some (by kernel_rfl))
  f233 := Tryd.func37.trans (congrArg some (by kernel_rfl))
  f235 := Tryd.func38.trans (congrArg some (by kernel_rfl))
  f260 := Tryd.func54.trans (congrArg some (by kernel_rfl))
  f266 := Tryd.func68.trans (congrArg some (by kernel_rfl))
  t0 := Tryd.underlying0
  a0 := Tryd.isAgg0
  z0 := Tryd.sizeOf0
  v0 := Tryd.zeroValue0
  t3 := Tryd.underlying3
  a3 := Tryd.isAgg3
  z3 := Tryd.sizeOf3
  v3 := Tryd.zeroValue3
  t4 := Tryd.underlying4
  a4 := Tryd.isAgg4
  z4 := Tryd.sizeOf4
  v4 := Tryd.zeroValue4
  t5 := Tryd.underlying5
  a5 := Tryd.isAgg5
  z5 := Tryd.sizeOf5
  v5 := Tryd.zeroValue5
  t9 := Tryd.underlying9
  a9 := Tryd.isAgg9
  z9 := Tryd.sizeOf9
  v9 := Tryd.zeroValue9
  t21 := Tryd.underlying21
  a21 := Tryd.isAgg21
  z21 := Tryd.sizeOf21
  v21 := Tryd.zeroValue21
  t46 := Tryd.underlying100
  a46 := Tryd.isAgg100
  z46 := Tryd.sizeOf100
  v46 := Tryd.zeroValue100
  t105 := Tryd.underlying79
  a105 := Tryd.isAgg79
  z105 := Tryd.sizeOf79
  v105 := Tryd.zeroValue79
  t116 := Tryd.underlying74
  a116 := Tryd.isAgg74
  z116 := Tryd.sizeOf74
  t117 := Tryd.underlying75
  a117 := Tryd.isAgg75
  z117 := Tryd.sizeOf75
  v117 := Tryd.zeroValue75
  t119 := Tryd.underlying103
  a119 := Tryd.isAgg103
  z119 := Tryd.sizeOf103
  t124 := Tryd.underlying78
  a124 := Tryd.isAgg78
  z124 := Tryd.sizeOf78
  v124 := Tryd.zeroValue78
  t138 := Tryd.underlying105
  a138 := Tryd.isAgg105
  z138 := Tryd.sizeOf105
  v138 := Tryd.zeroValue105
  t139 := Tryd.underlying106
  a139 := Tryd.isAgg106
  z139 := Tryd.sizeOf106
  v139 := Tryd.zeroValue106
  g3 := by kernel_rfl
  g4 := by kernel_rfl }
open Go.RowKit in
/-- strings.TrimLeft: "TrimLeft returns a slice of the string s with all leading Unicode code points contained in cutset removed.": AT A cutset OF ONE ASCII BYTE. The world is as it was. (LAID: no walk: one application.) -/
theorem Tryd.strings_TrimLeft_one (s : ByteArray) (c : UInt8) (hc : c.toNat < 128) (w : World) :
    Calls Tryd.prog 22 #[.string s, .string ⟨#[c]⟩] w fun e w' => e = .returned (.string ⟨(Lib.trimLeftB s.data.toList c).toArray⟩) ∧ w' = w := Any.strings_TrimLeft_one Tryd.lays161 s c hc w
def Tryd.lays125_ren : Go.Shelf.Ren := ⟨fun | 125 => 65 | 128 => 80 | 129 => 81 | n => n, fun | 46 => 100 | 3 => 3 | 51 => 111 | 53 => 125 | 4 => 4 | 5 => 5 | 9 => 9 | n => n, fun | n => n⟩
theorem Tryd.lays125 : Go.Proofs.Lays.n125 Tryd.prog Tryd.lays125_ren := {
  mixed := by kernel_rfl
  f125 := Tryd.func65.trans (congrArg some (by kernel_rfl))
  f128 := Tryd.func80.trans (congrArg some (by kernel_rfl))
  f129 := Tryd.func81.trans (congrArg some (by kernel_rfl))
  t3 := Tryd.underlying3
  a3 := Tryd.isAgg3
  z3 := Tryd.sizeOf3
  v3 := Tryd.zeroValue3
  t4 := Tryd.underlying4
  a4 := Tryd.isAgg4
  z4 := Tryd.sizeOf4
  v4 := Tryd.zeroValue4
  t5 := Tryd.underlying5
  a5 := Tryd.isAgg5
  z5 := Tryd.sizeOf5
  v5 := Tryd.zeroValue5
  t9 := Tryd.underlying9
  a9 := Tryd.isAgg9
  z9 := Tryd.sizeOf9
  v9 := Tryd.zeroValue9
  t46 := Tryd.underlying100
  a46 := Tryd.isAgg100
  z46 := Tryd.sizeOf100
  v46 := Tryd.zeroValue100
  t51 := Tryd.underlying111
  a51 := Tryd.isAgg111
  z51 := Tryd.sizeOf111
  v51 := Tryd.zeroValue111
  t53 := Tryd.underlying125
  a53 := Tryd.isAgg125
  z53 := Tryd.sizeOf125
  v53 := Tryd.zeroValue125 }
/-- bits.Len: "Len returns the minimum number of bits required to represent x; the result is 0 for x == 0.": IT RETURNS 'Lib.bitLen x'; the world is as it was. (A uint has 64 bits in the model.) ITS CALLEE bits.Len64 IS MET BY ITS OWN CONTRACT OFF THE SHELF (lay that first). (LAID: no walk: one application.) -/
theorem Tryd.bits_Len (x : Int) (w : World) (h0 : 0 ≤ x) (h1 : x ≤ 18446744073709551615) :
    Calls Tryd.prog 65 #[.int .u64 x] w fun e w' => e = .returned (.int .i64 (Lib.bitLen x.toNat)) ∧ w' = w := Any.bits_Len Tryd.lays125 x w h0 h1
def Tryd.lays106_ren : Go.Shelf.Ren := ⟨fun | 106 => 57 | 213 => 66 | 265 => 82 | n => n, fun | 9 => 9 | 3 => 3 | n => n, fun | n => n⟩
theorem Tryd.lays106 : Go.Proofs.Lays.n106 Tryd.prog Tryd.lays106_ren := {
  mixed := by kernel_rfl
  f106 := Tryd.func57.trans (congrArg some (by kernel_rfl))
  f213 := Tryd.func66.trans (congrArg some (by kernel_rfl))
  f265 := Tryd.func82.trans (congrArg some (by kernel_rfl))
  t3 := Tryd.underlying3
  a3 := Tryd.isAgg3
  z3 := Tryd.sizeOf3
  v3 := Tryd.zeroValue3
  t9 := Tryd.underlying9
  a9 := Tryd.isAgg9
  z9 := Tryd.sizeOf9
  v9 := Tryd.zeroValue9 }
open Go.RowKit in
/-- strings.Compare: "Compare returns an integer comparing two strings lexicographically. The result will be 0 if a == b, -1 if a < b, and +1 if a > b.": IT RETURNS 'Lib.compareBytes a b'; the world is as it was. (LAID: no walk: one application.) -/
theorem Tryd.strings_Compare (a b : ByteArray) (w : World) :
    Calls Tryd.prog 57 #[.string a, .string b] w fun e w' => e = .returned (.int .i64 (Lib.compareBytes a.data.toList b.data.toList)) ∧ w' = w := Any.strings_Compare Tryd.lays106 a b w
def Tryd.lays103_ren : Go.Shelf.Ren := ⟨fun | 103 => 24 | 210 => 40 | 206 => 39 | n => n, fun | 9 => 9 | 4 => 4 | 24 => 57 | 3 => 3 | n => n, fun | n => n⟩
theorem Tryd.lays103 : Go.Proofs.Lays.n103 Tryd.prog Tryd.lays103_ren := {
  mixed := by kernel_rfl
  f103 := Tryd.func24.trans (congrArg some (by kernel_rfl))
  f206 := Tryd.func39.trans (congrArg some (by kernel_rfl))
  f210 := Tryd.func40.trans (congrArg some (by kernel_rfl))
  t3 := Tryd.underlying3
  a3 := Tryd.isAgg3
  z3 := Tryd.sizeOf3
  v3 := Tryd.zeroValue3
  t4 := Tryd.underlying4
  a4 := Tryd.isAgg4
  z4 := Tryd.sizeOf4
  v4 := Tryd.zeroValue4
  t9 := Tryd.underlying9
  a9 := Tryd.isAgg9
  z9 := Tryd.sizeOf9
  v9 := Tryd.zeroValue9
  t24 := Tryd.underlying57
  a24 := Tryd.isAgg57
  z24 := Tryd.sizeOf57
  v24 := Tryd.zeroValue57 }
open Go.RowKit in
/-- strings.CutPrefix: "CutPrefix returns s without the provided leading prefix string and reports whether it found the prefix. If s doesn't start with prefix, CutPrefix returns s, false. If prefix is the empty string, CutPrefix returns s, true.": IT RETURNS '(Lib.trimPrefix s p, Lib.hasPrefix s p)'; the world is as it was. (LAID: no walk: one application.) -/
theorem Tryd.strings_CutPrefix (s p : ByteArray) (w : World) :
    Calls Tryd.prog 24 #[.string s, .string p] w fun e w' => e = .returned (.tuple #[.string ⟨(Lib.trimPrefix s.data.toList p.data.toList).toArray⟩, .bool (Lib.hasPrefix s.data.toList p.data.toList)]) ∧ w' = w := Any.strings_CutPrefix Tryd.lays103 s p w
open Go.RowKit in
/-- (*strings.Builder).Len: "Len returns the number of accumulated bytes; b.Len() == len(b.String()).": the world is as it was. (THE FORM '_f': 'Lib.IsBuilderF'.) (LAID: no walk: one application.) -/
theorem Tryd.Builder_Len_f (B b : Nat) (bs : List Value) (w : World) (h : Lib.IsBuilderF 87 5 B b bs w) :
    Calls Tryd.prog 44 #[.pointer (some ⟨b, 0, none⟩)] w fun e w' => e = .returned (.int .i64 bs.length) ∧ w' = w := Any.Builder_Len_f Tryd.lays170 B b bs w h
open Go.RowKit in
/-- (*strings.Builder).String: "String returns the accumulated string.": WHATEVER THE BUILDER HOLDS; THE FORM '_f': OF A BUILDER THAT MAY HAVE BEEN READ BEFORE; AND IT IS A BUILDER STILL, holding the same bytes: it can be written on. (LAID: no walk: one application.) -/
theorem Tryd.Builder_String_any_f (B b : Nat) (l : List UInt8) (w : World) (h : Lib.IsBuilderF 87 5 B b (Lib.byteCells l) w) (hBw : B ≤ w.heap.size) :
    Calls Tryd.prog 45 #[.pointer (some ⟨b, 0, none⟩)] w fun e w' => e = .returned (.string ⟨l.toArray⟩) ∧ (Lib.IsBuilderF 87 5 B b (Lib.byteCells l) w' ∧ Below B w w') := Any.Builder_String_any_f Tryd.lays169 Tryd.Builder_Extra_169 B b l w h hBw
def Tryd.lays99_ren : Go.Shelf.Ren := ⟨fun | 99 => 23 | 206 => 39 | n => n, fun | 9 => 9 | 4 => 4 | 3 => 3 | n => n, fun | n => n⟩
theorem Tryd.lays99 : Go.Proofs.Lays.n99 Tryd.prog Tryd.lays99_ren := {
  mixed := by kernel_rfl
  f99 := Tryd.func23.trans (congrArg some (by kernel_rfl))
  f206 := Tryd.func39.trans (congrArg some (by kernel_rfl))
  t3 := Tryd.underlying3
  a3 := Tryd.isAgg3
  z3 := Tryd.sizeOf3
  v3 := Tryd.zeroValue3
  t4 := Tryd.underlying4
  a4 := Tryd.isAgg4
  z4 := Tryd.sizeOf4
  v4 := Tryd.zeroValue4
  t9 := Tryd.underlying9
  a9 := Tryd.isAgg9
  z9 := Tryd.sizeOf9
  v9 := Tryd.zeroValue9 }
open Go.RowKit Go.Lib in
/-- strings.HasPrefix: "HasPrefix reports whether the string s begins with prefix.": IT RETURNS 'Lib.hasPrefix s prefix'; the world is as it was. (LAID: no walk: one application.) -/
theorem Tryd.strings_HasPrefix (s p : ByteArray) (w : World) :
    Calls Tryd.prog 23 #[.string s, .string p] w fun e w' => e = .returned (.bool (Lib.hasPrefix s.data.toList p.data.toList)) ∧ w' = w := Any.strings_HasPrefix Tryd.lays99 s p w
def Tryd.lays102_ren : Go.Shelf.Ren := ⟨fun | 102 => 10 | 209 => 21 | 207 => 34 | n => n, fun | 9 => 9 | 4 => 4 | 3 => 3 | n => n, fun | n => n⟩
theorem Tryd.lays102 : Go.Proofs.Lays.n102 Tryd.prog Tryd.lays102_ren := {
  mixed := by kernel_rfl
  f102 := Tryd.func10.trans (congrArg some (by kernel_rfl))
  f207 := Tryd.func34.trans (congrArg some (by kernel_rfl))
  f209 := Tryd.func21.trans (congrArg some (by kernel_rfl))
  t3 := Tryd.underlying3
  a3 := Tryd.isAgg3
  z3 := Tryd.sizeOf3
  v3 := Tryd.zeroValue3
  t4 := Tryd.underlying4
  a4 := Tryd.isAgg4
  z4 := Tryd.sizeOf4
  v4 := Tryd.zeroValue4
  t9 := Tryd.underlying9
  a9 := Tryd.isAgg9
  z9 := Tryd.sizeOf9
  v9 := Tryd.zeroValue9 }
open Go.RowKit Go.Lib in
/-- strings.TrimSuffix: "TrimSuffix returns s without the provided trailing suffix string. If s doesn't end with suffix, s is returned unchanged.": IT RETURNS 'Lib.trimSuffix s suffix'; the world is as it was. (LAID: no walk: one application.) -/
theorem Tryd.strings_TrimSuffix (s p : ByteArray) (w : World) (hs : s.size ≤ 9223372036854775807) :
    Calls Tryd.prog 10 #[.string s, .string p] w fun e w' => e = .returned (.string ⟨(Lib.trimSuffix s.data.toList p.data.toList).toArray⟩) ∧ w' = w := Any.strings_TrimSuffix Tryd.lays102 s p w hs
def Tryd.lays146_ren : Go.Shelf.Ren := ⟨fun | 146 => 9 | 221 => 20 | 268 => 31 | 138 => 32 | 143 => 33 | 195 => 49 | 197 => 41 | 218 => 50 | 219 => 51 | 260 => 54 | 217 => 59 | 225 => 60 | 224 => 61 | 267 => 62 | 266 => 68 | 314 => 69 | n => n, fun | 9 => 9 | 31 => 44 | 3 => 3 | 4 => 4 | 0 => 0 | 105 => 79 | 21 => 21 | 5 => 5 | 46 => 100 | 119 => 103 | 139 => 106 | 138 => 105 | 146 => 112 | 51 => 111 | n => n, fun | 1 => 1 | 3 => 2 | 4 => 3 | n => n⟩
theorem Tryd.lays146 : Go.Proofs.Lays.n146 Tryd.prog Tryd.lays146_ren := {
  mixed := by kernel_rfl
  f138 := Tryd.func32.trans (congrArg some (by kernel_rfl))
  f143 := Tryd.func33.trans (congrArg some (by kernel_rfl))
  f146 := Tryd.func9.trans (congrArg some (by kernel_rfl))
  f195 := Tryd.func49.trans (congrArg some (by kernel_rfl))
  f197 := Tryd.func41.trans (congrArg some (by kernel_rfl))
  f217 := Tryd.func59.trans (congrArg some (by kernel_rfl))
  f218 := Tryd.func50.trans (congrArg some (by kernel_rfl))
  f219 := Tryd.func51.trans (congrArg some (by kernel_rfl))
  f221 := Tryd.func20.trans (congrArg some (by kernel_rfl))
  f224 := Tryd.func61.trans (congrArg some (by kernel_rfl))
  f225 := Tryd.func60.trans (congrArg some (by kernel_rfl))
  f260 := Tryd.func54.trans (congrArg some (by kernel_rfl))
  f266 := Tryd.func68.trans (congrArg some (by kernel_rfl))
  f267 := Tryd.func62.trans (congrArg some (by kernel_rfl))
  f268 := Tryd.func31.trans (congrArg some (by kernel_rfl))
  f314 := Tryd.func69.trans (congrArg some (by kernel_rfl))
  t0 := Tryd.underlying0
  a0 := Tryd.isAgg0
  z0 := Tryd.sizeOf0
  v0 := Tryd.zeroValue0
  t3 := Tryd.underlying3
  a3 := Tryd.isAgg3
  z3 := Tryd.sizeOf3
  v3 := Tryd.zeroValue3
  t4 := Tryd.underlying4
  a4 := Tryd.isAgg4
  z4 := Tryd.sizeOf4
  v4 := Tryd.zeroValue4
  t5 := Tryd.underlying5
  a5 := Tryd.isAgg5
  z5 := Tryd.sizeOf5
  v5 := Tryd.zeroValue5
  t9 := Tryd.underlying9
  a9 := Tryd.isAgg9
  z9 := Tryd.sizeOf9
  v9 := Tryd.zeroValue9
  t21 := Tryd.underlying21
  a21 := Tryd.isAgg21
  z21 := Tryd.sizeOf21
  v21 := Tryd.zeroValue21
  t31 := Tryd.underlying44
  a31 := Tryd.isAgg44
  z31 := Tryd.sizeOf44
  v31 := Tryd.zeroValue44
  t46 := Tryd.underlying100
  a46 := Tryd.isAgg100
  z46 := Tryd.sizeOf100
  v46 := Tryd.zeroValue100
  t51 := Tryd.underlying111
  a51 := Tryd.isAgg111
  z51 := Tryd.sizeOf111
  v51 := Tryd.zeroValue111
  t105 := Tryd.underlying79
  a105 := Tryd.isAgg79
  z105 := Tryd.sizeOf79
  v105 := Tryd.zeroValue79
  t119 := Tryd.underlying103
  a119 := Tryd.isAgg103
  z119 := Tryd.sizeOf103
  t138 := Tryd.underlying105
  a138 := Tryd.isAgg105
  z138 := Tryd.sizeOf105
  v138 := Tryd.zeroValue105
  t139 := Tryd.underlying106
  a139 := Tryd.isAgg106
  z139 := Tryd.sizeOf106
  v139 := Tryd.zeroValue106
  t146 := Tryd.underlying112
  a146 := Tryd.isAgg112
  z146 := Tryd.sizeOf112
  v146 := Tryd.zeroValue112
  g1 := by kernel_rfl
  g3 := by kernel_rfl
  g4 := by kernel_rfl }
open Go.RowKit Go.Lib in
/-- strings.Split. (LAID: no walk: one application.) -/
theorem Tryd.strings_Split (s sep : ByteArray) (m : Int) (w : World) (hs : s.size < 4294967281) (hm : w.cell? ⟨1, 0, none⟩ = some (.int .i64 m)) (h1 : 1 ≤ sep.size) :
    Calls Tryd.prog 9 #[.string s, .string sep] w fun e w' =>
      e = .returned (.slice (some ⟨w.heap.size, 0, none⟩) (Lib.countB s sep + 1) (Lib.countB s sep + 1)) ∧ w' = w.alloc (.cells ((Lib.splitB sep 0 (Lib.countB s sep) s).map Value.string).toArray 9) := Any.strings_Split Tryd.lays146 (by kernel_rfl) s sep m w hs hm h1
def Tryd.lays197_ren : Go.Shelf.Ren := ⟨fun | 197 => 41 | 260 => 54 | n => n, fun | 9 => 9 | 21 => 21 | 3 => 3 | 4 => 4 | 5 => 5 | 105 => 79 | 119 => 103 | 0 => 0 | 46 => 100 | 139 => 106 | 138 => 105 | n => n, fun | 3 => 2 | 4 => 3 | n => n⟩
theorem Tryd.lays197 : Go.Proofs.Lays.n197 Tryd.prog Tryd.lays197_ren := {
  mixed := by kernel_rfl
  f197 := Tryd.func41.trans (congrArg some (by kernel_rfl))
  f260 := Tryd.func54.trans (congrArg some (by kernel_rfl))
  t0 := Tryd.underlying0
  a0 := Tryd.isAgg0
  z0 := Tryd.sizeOf0
  v0 := Tryd.zeroValue0
  t3 := Tryd.underlying3
  a3 := Tryd.isAgg3
  z3 := Tryd.sizeOf3
  v3 := Tryd.zeroValue3
  t4 := Tryd.underlying4
  a4 := Tryd.isAgg4
  z4 := Tryd.sizeOf4
  v4 := Tryd.zeroValue4
  t5 := Tryd.underlying5
  a5 := Tryd.isAgg5
  z5 := Tryd.sizeOf5
  v5 := Tryd.zeroValue5
  t9 := Tryd.underlying9
  a9 := Tryd.isAgg9
  z9 := Tryd.sizeOf9
  v9 := Tryd.zeroValue9
  t21 := Tryd.underlying21
  a21 := Tryd.isAgg21
  z21 := Tryd.sizeOf21
  v21 := Tryd.zeroValue21
  t46 := Tryd.underlying100
  a46 := Tryd.isAgg100
  z46 := Tryd.sizeOf100
  v46 := Tryd.zeroValue100
  t105 := Tryd.underlying79
  a105 := Tryd.isAgg79
  z105 := Tryd.sizeOf79
  v105 := Tryd.zeroValue79
  t119 := Tryd.underlying103
  a119 := Tryd.isAgg103
  z119 := Tryd.sizeOf103
  t138 := Tryd.underlying105
  a138 := Tryd.isAgg105
  z138 := Tryd.sizeOf105
  v138 := Tryd.zeroValue105
  t139 := Tryd.underlying106
  a139 := Tryd.isAgg106
  z139 := Tryd.sizeOf106
  v139 := Tryd.zeroValue106
  g3 := by kernel_rfl
  g4 := by kernel_rfl }
open Go.RowKit Go.Lib in
/-- **unicode/utf8.DecodeRuneInString AT EVERY STRING.** (LAID: no walk: one application.) -/
theorem Tryd.utf8_DecodeRuneInString (s : ByteArray) (w : World) (hT : Lib.Utf8Tabs 2 3 w) :
    Calls Tryd.prog 41 #[.string s] w fun e w' => e = .returned (.tuple #[.int .i32 (Lib.decodeGo s).1, .int .i64 (Lib.decodeGo s).2]) ∧ Below w.heap.size w w' := Any.utf8_DecodeRuneInString Tryd.lays197 s w hT
end Go.Proofs
namespace Go.Proofs
open Go.Shelf
def Tryd.lays167_ren : Go.Shelf.Ren := ⟨fun | 167 => 46 | 240 => 58 | 276 => 67 | n => n, fun | 0 => 0 | 4 => 4 | 5 => 5 | 9 => 9 | 20 => 20 | 37 => 62 | 70 => 85 | 72 => 87 | 75 => 91 | 80 => 89 | 164 => 109 | n => n, fun | n => n⟩
theorem Tryd.lays167 : Go.Proofs.Lays.n167 Tryd.prog Tryd.lays167_ren := {
  mixed := by kernel_rfl
  f167 := Tryd.func46.trans (congrArg some (by kernel_rfl))
  f240 := Tryd.func58.trans (congrArg some (by kernel_rfl))
  f276 := Tryd.func67.trans (congrArg some (by kernel_rfl))
  t0 := Tryd.underlying0
  a0 := Tryd.isAgg0
  z0 := Tryd.sizeOf0
  v0 := Tryd.zeroValue0
  t4 := Tryd.underlying4
  a4 := Tryd.isAgg4
  z4 := Tryd.sizeOf4
  v4 := Tryd.zeroValue4
  t5 := Tryd.underlying5
  a5 := Tryd.isAgg5
  z5 := Tryd.sizeOf5
  v5 := Tryd.zeroValue5
  t9 := Tryd.underlying9
  a9 := Tryd.isAgg9
  z9 := Tryd.sizeOf9
  v9 := Tryd.zeroValue9
  t20 := Tryd.underlying20
  a20 := Tryd.isAgg20
  z20 := Tryd.sizeOf20
  v20 := Tryd.zeroValue20
  t37 := Tryd.underlying62
  a37 := Tryd.isAgg62
  z37 := Tryd.sizeOf62
  v37 := Tryd.zeroValue62
  t70 := Tryd.underlying85
  a70 := Tryd.isAgg85
  z70 := Tryd.sizeOf85
  v70 := Tryd.zeroValue85
  t72 := Tryd.underlying87
  a72 := Tryd.isAgg87
  z72 := Tryd.sizeOf87
  v72 := Tryd.zeroValue87
  t75 := Tryd.underlying91
  a75 := Tryd.isAgg91
  z75 := Tryd.sizeOf91
  v75 := Tryd.zeroValue91
  t164 := Tryd.underlying109
  a164 := Tryd.isAgg109
  z164 := Tryd.sizeOf109
  v164 := Tryd.zeroValue109 }
theorem Tryd.Builder_Extra_167 : Builder.Extra Tryd.prog Tryd.lays167_ren := {
  sizeBuilder := by kernel_rfl
  liesBuilder := by kernel_rfl
  t5 := Tryd.underlying5
  a5 := Tryd.isAgg5
  z5 := Tryd.sizeOf5
  v5 := Tryd.zeroValue5
  infoByte := by kernel_rfl
  cellsByte := by kernel_rfl
  sizeByte := by kernel_rfl
  neB5 := by decide }
open Go.RowKit in
theorem Tryd.Builder_WriteByte_k (B b : Nat) (bs : List Value) (c : Int) (w : World) (h : Lib.IsBuilderF 87 5 B b bs w) (hlen : bs.length + 1 ≤ 140737488355328) (hBw : B ≤ w.heap.size) :
    Calls Tryd.prog 46 #[.pointer (some ⟨b, 0, none⟩), .int .u8 c] w fun e w' => e = .returned .nilIface ∧ (Lib.BuilderAtF 87 5 B b (.pointer (some ⟨b, 0, none⟩)) (bs ++ [.int .u8 c]) w' ∧ Below B w w' ∧ Lib.OthersKept 5 (some b) w w') := Any.Builder_WriteByte_k Tryd.lays167 Tryd.Builder_Extra_167 B b bs c w h hlen hBw
end Go.Proofs
