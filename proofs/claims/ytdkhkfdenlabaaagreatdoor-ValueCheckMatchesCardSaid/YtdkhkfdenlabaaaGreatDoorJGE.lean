/- Values, plainly: texts divided at a byte, numbers as they are entered. Values, plainly: characters, texts, errors of values. Values, plainly: the calendar. Values, plainly: what is entered. A walk that reckons: slices held against nil, bools held against each other, an empty slice made. A walk that reckons: what is known of one block is told of another number; slices that are arguments; calls that may answer with an argument. A walk that reckons: calls that answer with several slices of their own making, among others; fractions. A walk that reckons: numbers kept free ahead of a drawn region; one's own cells told of another number. A walk that reckons: fractions whose slices may be arguments'. -/
import Derived.Test.YtdkhkfdenlabaaaGreatDoorJGD
import Derived.Test.YtdkhkfdenlabaaaGreatDoorJGA
import Derived.Shelf.Unicode.DecodeSlow
import Derived.Lib.DecodeN
import Derived.Laws.Cover3
set_option linter.unusedSimpArgs false
set_option linter.unusedVariables false
namespace Go.Proofs.YtdkhkfdenlabaaaGreatDoor.VaP
open Go.Proofs.YtdkhkfdenlabaaaGreatDoor Go.Proofs.YtdkhkfdenlabaaaGreatDoor.ExP
/-- a text divided at a byte -/
def splitC (c : UInt8) : Str → List Str
  | [] => [[]]
  | x :: s => if x = c then [] :: splitC c s else match splitC c s with
    | [] => [[x]]
    | g :: l => (x :: g) :: l
/-- what stands ahead of a byte and behind it -/
def cutB (c : UInt8) (s : Str) : Str × Str × Bool := if c ∈ s then (s.takeWhile (· != c), (s.dropWhile (· != c)).tail, true) else (s, [], false)
/-- digits in groups -/
def grpF : Nat → Str → Str → Str × Str
  | 0, d, r => (d, r)
  | k + 1, d, r => if r.head? = some 44 ∧ (runD r.tail).length = 3 then grpF k (d ++ runD r.tail) (runR r.tail) else (d, r)
def grpR (d r : Str) : Str × Str := grpF r.length d r
theorem grpF_more : ∀ (k j : Nat) (d r : Str), r.length ≤ k → k ≤ j → grpF j d r = grpF k d r
  | 0, j, d, r, h, _ => by
    have : r = [] := List.eq_nil_of_length_eq_zero (by omega)
    subst this
    cases j with
    | zero => rfl
    | succ j => simp [grpF]
  | k + 1, 0, d, r, _, h => by omega
  | k + 1, j + 1, d, r, h, hj => by
    unfold grpF
    split
    · rename_i hc
      have h1 := run_len r.tail
      have h2 : r.tail.length = r.length - 1 := List.length_tail
      have h3 : r ≠ [] := fun e => by rw [e] at hc; cases hc.1
      have h4 := List.length_pos_iff.2 h3
      exact grpF_more k j _ _ (by omega) (by omega)
    · rfl
theorem grpR_step (d r : Str) : grpR d r = if r.head? = some 44 ∧ (runD r.tail).length = 3 then grpR (d ++ runD r.tail) (runR r.tail) else (d, r) := by
  unfold grpR
  cases hl : r.length with
  | zero =>
    have : r = [] := List.eq_nil_of_length_eq_zero hl
    subst this
    simp [grpF]
  | succ k =>
    show (if r.head? = some 44 ∧ (runD r.tail).length = 3 then _ else _) = _
    split
    · have h1 := run_len r.tail
      have h2 : r.tail.length = r.length - 1 := List.length_tail
      exact grpF_more _ _ _ _ (Nat.le_refl _) (by omega)
    · rfl
def grp (s : Str) : Str × Str := if (runD s).length < 1 ∨ 3 < (runD s).length then (runD s, runR s) else grpR (runD s) (runR s)
/-- a sign of percent at the end -/
def cutP (s : Str) : Str × Bool := if s.getLast? = some 37 then (s.dropLast, true) else (s, false)
theorem run_pct (s : Str) : runD (s ++ [37]) = runD s ∧ runR (s ++ [37]) = runR s ++ [37] := by
  unfold runD runR
  induction s with
  | nil => exact ⟨by decide, by decide⟩
  | cons x s ih =>
    rw [List.cons_append]
    by_cases hx : digC x = true
    · rw [List.takeWhile_cons_of_pos hx, List.takeWhile_cons_of_pos hx, List.dropWhile_cons_of_pos hx, List.dropWhile_cons_of_pos hx, ih.1, ih.2]
      exact ⟨rfl, rfl⟩
    · rw [List.takeWhile_cons_of_neg hx, List.takeWhile_cons_of_neg hx, List.dropWhile_cons_of_neg hx, List.dropWhile_cons_of_neg hx]
      exact ⟨rfl, rfl⟩
theorem grpF_pct : ∀ (k : Nat) (d r : Str), grpF k d (r ++ [37]) = ((grpF k d r).1, (grpF k d r).2 ++ [37])
  | 0, d, r => rfl
  | k + 1, d, r => by
    have e : ((r ++ [37]).head? = some 44 ∧ (runD (r ++ [37]).tail).length = 3) ↔ (r.head? = some 44 ∧ (runD r.tail).length = 3) := by
      cases r with
      | nil => simp
      | cons x r => simp [(run_pct r).1]
    unfold grpF
    by_cases hc : r.head? = some 44 ∧ (runD r.tail).length = 3
    · rw [if_pos hc, if_pos (e.2 hc)]
      cases r with
      | nil => cases hc.1
      | cons x r =>
        show grpF k (d ++ runD (r ++ [37])) (runR (r ++ [37])) = _
        rw [(run_pct r).1, (run_pct r).2]
        exact grpF_pct k _ _
    · rw [if_neg hc, if_neg (fun h => hc (e.1 h))]
theorem grp_pct (s : Str) : grp (s ++ [37]) = ((grp s).1, (grp s).2 ++ [37]) := by
  unfold grp
  rw [(run_pct s).1, (run_pct s).2]
  split
  · rfl
  · unfold grpR
    have e : ∀ (r : Str) (d : Str), grpF (r ++ [37]).length d (r ++ [37]) = ((grpF r.length d r).1, (grpF r.length d r).2 ++ [37]) := fun r d => by
      rw [grpF_pct, grpF_more r.length _ d r (Nat.le_refl _) (by simp)]
    exact e _ _
theorem grpF_suf : ∀ (k : Nat) (d r : Str), ∃ p, r = p ++ (grpF k d r).2
  | 0, d, r => ⟨[], rfl⟩
  | k + 1, d, r => by
    unfold grpF
    split
    · rename_i hc
      obtain ⟨p, hp⟩ := grpF_suf k (d ++ runD r.tail) (runR r.tail)
      cases r with
      | nil => cases hc.1
      | cons x r =>
        refine ⟨x :: (runD r ++ p), ?_⟩
        show x :: r = x :: (runD r ++ p) ++ (grpF k (d ++ runD r) (runR r)).2
        have hp' : runR r = p ++ (grpF k (d ++ runD r) (runR r)).2 := hp
        rw [List.cons_append, List.append_assoc, ← hp', run_app]
    · exact ⟨[], rfl⟩
theorem grp_suf (s : Str) : ∃ p, s = p ++ (grp s).2 := by
  unfold grp
  split
  · exact ⟨_, (run_app s).symm⟩
  · obtain ⟨p, hp⟩ := grpF_suf (runR s).length (runD s) (runR s)
    refine ⟨runD s ++ p, ?_⟩
    unfold grpR
    rw [List.append_assoc, ← hp, run_app]
/-- the sign of percent can be struck first -/
theorem grp_cut (s : Str) : (grp s).1 = (grp (cutP s).1).1 ∧ cutP (grp s).2 = ((grp (cutP s).1).2, (cutP s).2) := by
  unfold cutP
  by_cases h : s.getLast? = some 37
  · rw [if_pos h]
    obtain ⟨t, rfl⟩ : ∃ t, s = t ++ [37] := List.getLast?_eq_some_iff.1 h
    rw [List.dropLast_concat, grp_pct]
    dsimp only
    rw [if_pos (by simp), List.dropLast_concat]
    exact ⟨rfl, rfl⟩
  · rw [if_neg h]
    refine ⟨rfl, ?_⟩
    dsimp only
    rw [if_neg]
    intro h2
    apply h
    obtain ⟨p, hp⟩ := grp_suf s
    obtain ⟨t, ht⟩ := List.getLast?_eq_some_iff.1 h2
    rw [hp, ht, ← List.append_assoc]
    simp
end Go.Proofs.YtdkhkfdenlabaaaGreatDoor.VaP
namespace Go.Proofs.YtdkhkfdenlabaaaGreatDoor.VaP
open Go.Proofs.YtdkhkfdenlabaaaGreatDoor
abbrev Str := List UInt8
/-- a byte of a text, 0 beyond its end -/
def bt (s : Str) (i : Nat) : Nat := (s.getD i 0).toNat
/-- the first character of a text and its length -/
def dec (s : Str) : Nat × Nat := Lib.decodeGo (bstr s)
theorem bt_lt (s : Str) (i : Nat) : bt s i < 256 := (s.getD i 0).toNat_lt
theorem bt_get (s : Str) (i : Nat) : ((bstr s).get! i).toNat = bt s i := by
  unfold bt bstr ByteArray.get!
  rw [List.getD_eq_getElem?_getD]
  simp [Array.getElem!_eq_getD, Array.getD_eq_getD_getElem?]
  rfl
theorem dec_eq {s : Str} (h : s ≠ []) : dec s = Lib.decodeN s.length (bt s 0) (bt s 1) (bt s 2) (bt s 3) := by
  have h1 : ¬ (bstr s).size = 0 := fun e => h (List.eq_nil_of_length_eq_zero e)
  unfold dec Lib.decodeGo
  rw [if_neg h1, Lib.decode_at, bt_get, bt_get, bt_get, bt_get]
  rfl
/-- the first character of a text; the length is 0 if there is none that is right -/
def rune (s : Str) : Nat × Nat := if dec s = (65533, 1) then (0, 0) else dec s
theorem dec_len {s : Str} (h : s ≠ []) : 1 ≤ (dec s).2 ∧ (dec s).2 ≤ s.length := by
  have h0 : 0 < s.length := List.length_pos_iff.2 h
  rw [dec_eq h]
  unfold Lib.decodeN
  repeat' split
  all_goals (dsimp only; omega)
theorem dec_lt {s : Str} (h : s ≠ []) : (dec s).1 ≤ 1114111 := by
  have := bt_lt s 0
  rw [dec_eq h]
  unfold Lib.decodeN
  repeat' split
  all_goals (dsimp only; omega)
theorem rune_bad {s : Str} (h : dec s = (65533, 1)) : rune s = (0, 0) := if_pos h
theorem rune_ok {s : Str} {c n : Nat} (h : dec s = (c, n)) (hn : (c, n) ≠ (65533, 1)) : rune s = (c, n) := by
  unfold rune; rw [if_neg (by rw [h]; exact hn), h]
theorem rune_1 {s : Str} (h : s ≠ []) (h0 : bt s 0 < 128) : rune s = (bt s 0, 1) := by
  have := dec_eq h
  refine rune_ok (by rw [this]; unfold Lib.decodeN; rw [if_pos h0]) (fun e => ?_)
  have := congrArg Prod.fst e
  dsimp only at this; omega
theorem rune_0 {s : Str} (h : s ≠ []) (h0 : 128 ≤ bt s 0) (h1 : bt s 0 < 194 ∨ 245 ≤ bt s 0) : rune s = (0, 0) := by
  apply rune_bad
  rw [dec_eq h]
  unfold Lib.decodeN
  repeat' split
  all_goals first | rfl | (exfalso; omega)
/-- a text of two bytes and more -/
theorem rune_2 {s : Str} (h : s ≠ []) (h0 : 194 ≤ bt s 0) (h1 : bt s 0 < 224) : rune s = if 1 < s.length ∧ bt s 1 / 64 = 2 then (bt s 0 % 32 * 64 + bt s 1 % 64, 2) else (0, 0) := by
  have hd := dec_eq h
  unfold Lib.decodeN at hd
  rw [if_neg (by omega)] at hd
  by_cases hc : 1 < s.length ∧ bt s 1 / 64 = 2
  · rw [if_pos hc]
    rw [if_pos ⟨by omega, hc⟩, if_pos (by omega)] at hd
    exact rune_ok hd (fun e => by have := congrArg Prod.snd e; simp at this)
  · rw [if_neg hc]
    rw [if_neg (fun h => hc h.2), if_neg (by omega), if_neg (by omega)] at hd
    exact rune_bad hd
theorem rune_3 {s : Str} (h : s ≠ []) (h0 : 224 ≤ bt s 0) (h1 : bt s 0 < 240) : rune s = if (1 < s.length ∧ bt s 1 / 64 = 2) ∧ (2 < s.length ∧ bt s 2 / 64 = 2) ∧ 2048 ≤ bt s 0 % 16 * 4096 + bt s 1 % 64 * 64 + bt s 2 % 64 ∧ (bt s 0 % 16 * 4096 + bt s 1 % 64 * 64 + bt s 2 % 64 < 55296 ∨ 57344 ≤ bt s 0 % 16 * 4096 + bt s 1 % 64 * 64 + bt s 2 % 64) then (bt s 0 % 16 * 4096 + bt s 1 % 64 * 64 + bt s 2 % 64, 3) else (0, 0) := by
  have hd := dec_eq h
  unfold Lib.decodeN at hd
  rw [if_neg (by omega), if_neg (by omega)] at hd
  by_cases hc : (1 < s.length ∧ bt s 1 / 64 = 2) ∧ (2 < s.length ∧ bt s 2 / 64 = 2)
  · rw [if_pos ⟨by omega, hc⟩] at hd
    by_cases hr : 2048 ≤ bt s 0 % 16 * 4096 + bt s 1 % 64 * 64 + bt s 2 % 64 ∧ (bt s 0 % 16 * 4096 + bt s 1 % 64 * 64 + bt s 2 % 64 < 55296 ∨ 57344 ≤ bt s 0 % 16 * 4096 + bt s 1 % 64 * 64 + bt s 2 % 64)
    · rw [if_pos ⟨hc.1, hc.2, hr⟩]
      rw [if_pos ⟨hr.1, hr.2.imp id (fun h => ⟨h, by omega⟩)⟩] at hd
      exact rune_ok hd (fun e => by have := congrArg Prod.snd e; simp at this)
    · rw [if_neg (fun h => hr h.2.2)]
      rw [if_neg (fun h => hr ⟨h.1, h.2.imp id And.left⟩)] at hd
      exact rune_bad hd
  · rw [if_neg (fun h => hc ⟨h.1, h.2.1⟩)]
    rw [if_neg (fun h => hc h.2), if_neg (by omega)] at hd
    exact rune_bad hd
theorem rune_4 {s : Str} (h : s ≠ []) (h0 : 240 ≤ bt s 0) (h1 : bt s 0 < 245) : rune s = if (1 < s.length ∧ bt s 1 / 64 = 2) ∧ (2 < s.length ∧ bt s 2 / 64 = 2) ∧ (3 < s.length ∧ bt s 3 / 64 = 2) ∧ 65536 ≤ bt s 0 % 8 * 262144 + bt s 1 % 64 * 4096 + bt s 2 % 64 * 64 + bt s 3 % 64 ∧ bt s 0 % 8 * 262144 + bt s 1 % 64 * 4096 + bt s 2 % 64 * 64 + bt s 3 % 64 ≤ 1114111 then (bt s 0 % 8 * 262144 + bt s 1 % 64 * 4096 + bt s 2 % 64 * 64 + bt s 3 % 64, 4) else (0, 0) := by
  have hd := dec_eq h
  unfold Lib.decodeN at hd
  rw [if_neg (by omega), if_neg (by omega), if_neg (by omega)] at hd
  by_cases hc : (1 < s.length ∧ bt s 1 / 64 = 2) ∧ (2 < s.length ∧ bt s 2 / 64 = 2) ∧ (3 < s.length ∧ bt s 3 / 64 = 2)
  · rw [if_pos ⟨by omega, hc⟩] at hd
    by_cases hr : 65536 ≤ bt s 0 % 8 * 262144 + bt s 1 % 64 * 4096 + bt s 2 % 64 * 64 + bt s 3 % 64 ∧ bt s 0 % 8 * 262144 + bt s 1 % 64 * 4096 + bt s 2 % 64 * 64 + bt s 3 % 64 ≤ 1114111
    · rw [if_pos ⟨hc.1, hc.2.1, hc.2.2, hr⟩]
      rw [if_pos ⟨hr.1, .inr ⟨by omega, hr.2⟩⟩] at hd
      exact rune_ok hd (fun e => by have := congrArg Prod.snd e; simp at this)
    · rw [if_neg (fun h => hr h.2.2.2)]
      rw [if_neg (fun h => hr ⟨h.1, by omega⟩)] at hd
      exact rune_bad hd
  · rw [if_neg (fun h => hc ⟨h.1, h.2.1, h.2.2.1⟩)]
    rw [if_neg (fun h => hc h.2)] at hd
    exact rune_bad hd
/-- characters that are permitted -/
def charP (c : Nat) : Bool := decide (c = 9) || decide (c = 10) || (decide (32 ≤ c) && decide (c < 127)) || (decide (160 ≤ c) && decide (c < 55296)) || (decide (57343 < c) && decide (c ≤ 1114111))
/-- every character is permitted -/
def txtF : Nat → Str → Bool
  | 0, _ => true
  | n + 1, s => if s = [] then true else if dec s = (65533, 1) ∨ charP (dec s).1 = false then false else txtF n (s.drop (dec s).2)
def txtP (s : Str) : Bool := txtF s.length s
theorem txtF_more : ∀ (n m : Nat) (s : Str), s.length ≤ n → n ≤ m → txtF m s = txtF n s
  | 0, m, s, h, _ => by
    have : s = [] := List.eq_nil_of_length_eq_zero (by omega)
    subst this
    cases m with
    | zero => rfl
    | succ m => simp [txtF]
  | n + 1, 0, s, _, h => by omega
  | n + 1, m + 1, s, h, hm => by
    unfold txtF
    by_cases hs : s = []
    · rw [if_pos hs, if_pos hs]
    · rw [if_neg hs, if_neg hs]
      have := dec_len hs
      rw [txtF_more n m (s.drop (dec s).2) (by rw [List.length_drop]; omega) (by omega)]
theorem txtP_step {s : Str} (hs : s ≠ []) : txtP s = if dec s = (65533, 1) ∨ charP (dec s).1 = false then false else txtP (s.drop (dec s).2) := by
  have h0 : 0 < s.length := List.length_pos_iff.2 hs
  have hd := dec_len hs
  unfold txtP
  obtain ⟨n, hn⟩ : ∃ n, s.length = n + 1 := ⟨s.length - 1, by omega⟩
  rw [hn]
  show (if s = [] then true else _) = _
  rw [if_neg hs, txtF_more (s.drop (dec s).2).length n _ (Nat.le_refl _) (by rw [List.length_drop]; omega)]
/-- the error of a text -/
def txtE (s : Str) : Int := if 32767 < s.length then 3 else if txtP s then 0 else 23
/-- small letters for capitals -/
def lowC (c : UInt8) : UInt8 := if 65 ≤ c ∧ c ≤ 90 then c + 32 else c
def low (s : Str) : Str := s.map lowC
/-- a value -/
structure VT where
  kind : Int
  num : ExP.Fr
  text : Str
  on : Bool
  code : Int
  rows : Int
  cols : Int
  items : List VT
/-- the error of a value that is no array, but for its items -/
def vErr0 (t : VT) : Int :=
  if t.kind < 0 ∨ 5 < t.kind then 8
  else if (t.kind ≠ 1 ∧ t.num ≠ ([], [])) ∨ (t.kind ≠ 2 ∧ t.text ≠ []) ∨ (t.kind ≠ 3 ∧ t.on = true) ∨ (t.kind ≠ 4 ∧ t.code ≠ 0) ∨ (t.kind ≠ 5 ∧ (t.rows ≠ 0 ∨ t.cols ≠ 0 ∨ t.items ≠ [])) then 4
  else if t.kind = 1 then ExP.readE t.num
  else if t.kind = 2 then txtE t.text
  else if t.kind = 4 ∧ (t.code < 1 ∨ 8 < t.code) then 2
  else 0
/-- the error of an item -/
def itE (t : VT) : Int := if t.kind = 5 then 8 else vErr0 t
/-- the first error of items -/
def itsE : List VT → Int
  | [] => 0
  | x :: l => if itE x ≠ 0 then itE x else itsE l
/-- the error of a value -/
def vErr (t : VT) : Int :=
  if vErr0 t ≠ 0 ∨ t.kind ≠ 5 then vErr0 t
  else if t.rows < 1 ∨ 100000 < t.rows ∨ t.cols < 1 ∨ 100000 < t.cols then 2
  else if 100000 < t.rows * t.cols then 3
  else if (t.items.length : Int) ≠ t.rows * t.cols then 4
  else itsE t.items
theorem itsE_all {l : List VT} : itsE l = 0 ↔ ∀ x ∈ l, itE x = 0 := by
  induction l with
  | nil => simp [itsE]
  | cons x l ih =>
    unfold itsE
    by_cases h : itE x = 0
    · simp [h, ih]
    · simp [h]
end Go.Proofs.YtdkhkfdenlabaaaGreatDoor.VaP
namespace Go.Proofs.YtdkhkfdenlabaaaGreatDoor.VaP
open Go.Proofs.YtdkhkfdenlabaaaGreatDoor
def leap (y : Nat) : Bool := decide (y % 4 = 0) && (decide (y % 100 ≠ 0) || decide (y % 400 = 0))
/-- days of a month -/
def mdays (y m : Nat) : Nat := if m = 2 then (if leap y then 29 else 28) else if m = 4 ∨ m = 6 ∨ m = 9 ∨ m = 11 then 30 else 31
/-- days of a year -/
def ydays (y : Nat) : Nat := 365 + (if leap y then 1 else 0)
/-- the days from 1900 on ahead of a year -/
def bef (y : Nat) : Nat := 365 * (y - 1900) + ((y - 1) / 4 + (y - 1) / 400 - (y - 1) / 100 - 460)
theorem bef_step {y : Nat} (h : 1900 ≤ y) : bef (y + 1) = bef y + ydays y := by
  have e1 : y + 1 - 1 = y := rfl
  unfold bef ydays leap
  rw [e1]
  have h1 : 460 ≤ (y - 1) / 4 + (y - 1) / 400 - (y - 1) / 100 := by omega
  by_cases h4 : y % 4 = 0
  · by_cases h100 : y % 100 = 0
    · by_cases h400 : y % 400 = 0
      · simp [h4, h100, h400]; omega
      · simp [h4, h100, h400]; omega
    · simp [h4, h100]; omega
  · simp [h4]; omega
theorem ydays_le (y : Nat) : 365 ≤ ydays y ∧ ydays y ≤ 366 := by unfold ydays; split <;> omega
theorem bef_low {y : Nat} (h : y < 1900) : bef y = 0 := by unfold bef; omega
attribute [local irreducible] bef
set_option maxRecDepth 10000 in
theorem bef_mono {y : Nat} (h : 1900 ≤ y) (k : Nat) : bef y + 365 * k ≤ bef (y + k) ∧ bef (y + k) ≤ bef y + 366 * k := by
  induction k with
  | zero => simp
  | succ k ih =>
    have h1 := bef_step (y := y + k) (by omega)
    have h2 := ydays_le (y + k)
    have h3 : bef (y + (k + 1)) = bef (y + k) + ydays (y + k) := h1
    rw [h3]
    clear h1 h3
    generalize ydays (y + k) = A at *
    generalize bef (y + k) = B at *
    generalize bef y = D at *
    have e1 : 365 * (k + 1) = 365 * k + 365 := rfl
    have e2 : 366 * (k + 1) = 366 * k + 366 := rfl
    rw [e1, e2]
    clear e1 e2
    generalize 365 * k = p at *
    generalize 366 * k = q at *
    omega
set_option maxRecDepth 10000 in
theorem bef_lt {a b : Nat} (ha : 1900 ≤ a) (h : bef a < bef b) : a < b := by
  rcases Nat.lt_or_ge a b with h1 | h1
  · exact h1
  · exfalso
    rcases Nat.lt_or_ge b 1900 with h2 | h2
    · have : bef b = 0 := bef_low h2
      omega
    · have := (bef_mono h2 (a - b)).1
      rw [show b + (a - b) = a by omega] at this
      omega
/-- the year of a day is one alone -/
theorem year_one {a b n : Nat} (ha : 1900 ≤ a) (hb : 1900 ≤ b) (a1 : bef a < n) (a2 : n ≤ bef (a + 1)) (b1 : bef b < n) (b2 : n ≤ bef (b + 1)) : a = b := by
  have h1 := bef_lt ha (show bef a < bef (b + 1) by omega)
  have h2 := bef_lt hb (show bef b < bef (a + 1) by omega)
  omega
/-- days of the months ahead of a month -/
def msum (y : Nat) : Nat → Nat
  | 0 => 0
  | m + 1 => msum y m + mdays y (m + 1)
theorem msum_year (y : Nat) : msum y 12 = ydays y := by
  unfold ydays
  by_cases h : leap y = true
  · simp [msum, mdays, h]
  · simp [msum, mdays, h]
theorem msum_mono (y : Nat) (m k : Nat) : msum y m ≤ msum y (m + k) := by
  induction k with
  | zero => exact Nat.le_refl _
  | succ k ih =>
    show msum y m ≤ msum y (m + k) + mdays y (m + k + 1)
    omega
/-- the month of a day of a year is one alone -/
theorem month_one {y a b d : Nat} (a1 : msum y a < d) (a2 : d ≤ msum y (a + 1)) (b1 : msum y b < d) (b2 : d ≤ msum y (b + 1)) : a = b := by
  rcases Nat.lt_trichotomy a b with h | h | h
  · exfalso
    have := msum_mono y (a + 1) (b - (a + 1))
    rw [show a + 1 + (b - (a + 1)) = b by omega] at this
    omega
  · exact h
  · exfalso
    have := msum_mono y (b + 1) (a - (b + 1))
    rw [show b + 1 + (a - (b + 1)) = a by omega] at this
    omega
/-- a date is a date -/
def dayP (y m d : Int) : Prop := 1900 ≤ y ∧ y ≤ 9999 ∧ 1 ≤ m ∧ m ≤ 12 ∧ 1 ≤ d ∧ d ≤ (mdays y.toNat m.toNat : Nat)
instance (y m d : Int) : Decidable (dayP y m d) := by unfold dayP; infer_instance
/-- the number of a date, or 0 -/
def dayV (y m d : Int) : Int := if dayP y m d then ((bef y.toNat + msum y.toNat (m.toNat - 1) : Nat) : Int) + d else 0
/-- what a day's number says -/
structure DateI (n y m d : Nat) : Prop where
  y0 : 1900 ≤ y
  m0 : m < 12
  y1 : n = bef y + msum y m + d
  d0 : 0 < d
  d1 : d ≤ mdays y (m + 1)
set_option maxRecDepth 10000 in
theorem DateI.one {n y m d y' m' d' : Nat} (h : DateI n y m d) (h' : DateI n y' m' d') : y = y' ∧ m = m' ∧ d = d' := by
  have f : ∀ {n y m d : Nat}, DateI n y m d → bef y < n ∧ n ≤ bef (y + 1) := fun {n y m d} h => by
    have e1 := bef_step h.y0
    have e2 := msum_mono y (m + 1) (12 - (m + 1))
    have := h.m0
    rw [show m + 1 + (12 - (m + 1)) = 12 by omega, msum_year] at e2
    have e3 : msum y (m + 1) = msum y m + mdays y (m + 1) := rfl
    have := h.y1; have := h.d0; have := h.d1
    omega
  have hy := year_one h.y0 h'.y0 (f h).1 (f h).2 (f h').1 (f h').2
  subst hy
  have hm := month_one (y := y) (d := n - bef y) (a := m) (b := m') (by have := h.y1; have := h.d0; omega)
    (by have := h.y1; have := h.d1; have e3 : msum y (m + 1) = msum y m + mdays y (m + 1) := rfl; omega)
    (by have := h'.y1; have := h'.d0; omega)
    (by have := h'.y1; have := h'.d1; have e3 : msum y (m' + 1) = msum y m' + mdays y (m' + 1) := rfl; omega)
  subst hm
  exact ⟨rfl, rfl, by have := h.y1; have := h'.y1; omega⟩
end Go.Proofs.YtdkhkfdenlabaaaGreatDoor.VaP
namespace Go.Proofs.YtdkhkfdenlabaaaGreatDoor.VaP
open Go.Proofs.YtdkhkfdenlabaaaGreatDoor Go.Proofs.YtdkhkfdenlabaaaGreatDoor.ExP
/-- a sign of a number -/
def sgn (s : Str) : Str × Str := if s.head? = some 43 then ([], s.tail) else if s.head? = some 45 then ([45], s.tail) else ([], s)
/-- a number's text without commas and without its sign of percent -/
def numT (s : Str) : Str := (sgn s).1 ++ ((grp (cutP (sgn s).2).1).1 ++ (grp (cutP (sgn s).2).1).2)
/-- a number as it is read: with or without a sign of percent -/
def numG (t : Str) (pc : Bool) : Option Num :=
  if parE t ≠ 0 ∨ writeE (decN t) ≠ 0 then none
  else if pc = true then (if writeE (scaleN (decN t) (-2)) = 0 then some (scaleN (decN t) (-2)) else none) else some (decN t)
def numV (s : Str) : Option Num :=
  if (grp (cutP (sgn s).2).1).1 = [] then none else numG (numT s) (cutP (sgn s).2).2
theorem sgn_two (s : Str) : (sgn s).1 = [] ∨ (sgn s).1 = [45] := by
  unfold sgn
  split
  · exact .inl rfl
  · split
    · exact .inr rfl
    · exact .inl rfl
/-- digits alone, not too many -/
def wh (s : Str) : Bool := !s.isEmpty && s.all digC && decide (s.length ≤ 100)
/-- a whole number and a fraction -/
def mixG (m : Bool) (a b c : Str) : Option Num := if wh a = true ∧ wh b = true ∧ wh c = true ∧ valS c ≠ 0 then some ⟨m, valS a * valS c + valS b, valS c⟩ else none
def mixV (s : Str) : Option Num :=
  if (cutB 32 (cutM s).1).2.2 = true ∧ (cutB 47 (cutB 32 (cutM s).1).2.1).2.2 = true then mixG (cutM s).2 (cutB 32 (cutM s).1).1 (cutB 47 (cutB 32 (cutM s).1).2.1).1 (cutB 47 (cutB 32 (cutM s).1).2.1).2.1 else none
/-- digits, so many -/
def cntP (s : Str) (n : Nat) : Bool := s.all digC && decide (s.length = n)
/-- the number of a date, or 0 -/
def dateV (s : Str) : Int := match splitC 45 s with
  | [a, b, c] => if cntP a 4 = true ∧ cntP b 2 = true ∧ cntP c 2 = true then dayV (valS a : Nat) (valS b : Nat) (valS c : Nat) else 0
  | _ => 0
/-- hours and minutes -/
def hmP (a b : Str) : Bool := !a.isEmpty && a.all digC && decide (a.length ≤ 2) && cntP b 2 && decide (valS a ≤ 23) && decide (valS b ≤ 59)
/-- seconds: whole ones, and digits behind a point -/
def secP (a p : Str) (point : Bool) : Bool := cntP a 2 && decide (valS a ≤ 59) && (!point || (!p.isEmpty && p.all digC && decide (p.length ≤ 9)))
def hmN (a b : Str) : Nat := 3600 * valS a + 60 * valS b
/-- a time as a part of a day -/
def clkG (a b c p : Str) (point : Bool) : Option Num := if hmP a b = true ∧ secP c p point = true then some ⟨false, hmN a b * 10 ^ p.length + valS (c ++ p), 10 ^ p.length * 86400⟩ else none
def clkV (s : Str) : Option Num := match splitC 58 s with
  | [a, b] => if hmP a b = true then some ⟨false, hmN a b, 86400⟩ else none
  | [a, b, c] => clkG a b (cutB 46 c).1 (cutB 46 c).2.1 (cutB 46 c).2.2
  | _ => none
/-- a date and a time -/
def momV (s : Str) : Option Num := match clkV (cutB 32 s).2.1 with
  | some x => if (cutB 32 s).2.2 = true ∧ 0 < dateV (cutB 32 s).1 then some (sumN ⟨false, (dateV (cutB 32 s).1).toNat, 1⟩ x) else none
  | none => none
def emptyV : VT := ⟨0, ([], []), [], false, 0, 0, 0, []⟩
def faultV (c : Int) : VT := ⟨4, ([], []), [], false, c, 0, 0, []⟩
def rawT (s : Str) : VT := ⟨2, ([], []), s, false, 0, 0, 0, []⟩
def boolV (b : Bool) : VT := ⟨3, ([], []), [], b, 0, 0, 0, []⟩
def numF (f : Fr) : VT := ⟨1, f, [], false, 0, 0, 0, []⟩
def textV (s : Str) : VT := if txtE s = 0 then rawT s else faultV 2
def ftext : Nat → Str
  | 1 => [35, 68, 73, 86, 47, 48, 33]
  | 2 => [35, 86, 65, 76, 85, 69, 33]
  | 3 => [35, 82, 69, 70, 33]
  | 4 => [35, 78, 65, 77, 69, 63]
  | 5 => [35, 78, 85, 77, 33]
  | 6 => [35, 78, 47, 65]
  | 7 => [35, 83, 80, 73, 76, 76, 33]
  | 8 => [35, 67, 89, 67, 76, 69, 33]
  | _ => []
/-- the number that is read, if one is -/
def readV (s : Str) : Option Num := match numV s with
  | some x => some x
  | none => match mixV s with
    | some x => some x
    | none => if 0 < dateV s then some ⟨false, (dateV s).toNat, 1⟩ else match clkV s with
      | some x => some x
      | none => momV s
end Go.Proofs.YtdkhkfdenlabaaaGreatDoor.VaP
namespace Go.Proofs.YtdkhkfdenlabaaaGreatDoor
open Go.RowKit
namespace Sym
theorem x_eqNil {C : Ctx} {G : Blobs} {x y : Operand} {t u e : TypeId} {a : Option Addr} {n c : Nat} (ht : C.P.underlying t = some (.slice e)) : ExtN C G (.binOp .eql t x y u) [.any (.slice a n c), .any (.slice none 0 0)] (.bool a.isNone) := by
  unfold ExtN
  intro ρ β w dst ty pos after g _ _ h
  have h' : ρ x = .slice a n c ∧ ρ y = .slice none 0 0 := by simpa [opsX, SV.dens, SV.den] using h
  have h2 := run_equal_slice_nil (P := C.P) w t e a n c ht
  simp [execOp, eqGuard, binOp, h'.1, h'.2, h2, SV.den]
theorem x_eqBB {C : Ctx} {G : Blobs} {x y : Operand} {t u : TypeId} {va vb : SV} (a b : Bool) (c : Bool) (ha : ∀ β, va.den β = .bool a) (hb : ∀ β, vb.den β = .bool b) (hc : (a == b) = c) (ht : C.P.underlying t = some .bool) : ExtN C G (.binOp .eql t x y u) [va, vb] (.lit c) := by
  unfold ExtN
  intro ρ β w dst ty pos after g _ _ h
  have h' : ρ x = .bool a ∧ ρ y = .bool b := by simpa [opsX, SV.dens, SV.den, ha, hb] using h
  have h2 := run_eql_bool (P := C.P) (w := w) t a b ht
  simp [execOp, eqGuard, h'.1, h'.2, h2, SV.den, hc]
theorem x_neBB {C : Ctx} {G : Blobs} {x y : Operand} {t u : TypeId} {va vb : SV} (a b : Bool) (ha : ∀ β, va.den β = .bool a) (hb : ∀ β, vb.den β = .bool b) (ht : C.P.underlying t = some .bool) : ExtN C G (.binOp .neq t x y u) [va, vb] (.bool (a != b)) := by
  unfold ExtN
  intro ρ β w dst ty pos after g _ _ h
  have h' : ρ x = .bool a ∧ ρ y = .bool b := by simpa [opsX, SV.dens, SV.den, ha, hb] using h
  have h2 := run_neq_bool (P := C.P) (w := w) t a b ht
  simp [execOp, eqGuard, h'.1, h'.2, h2, SV.den]
  cases a <;> cases b <;> rfl
/-- an empty slice is made -/
theorem opx_build0 {C : Ctx} {d : Nat} {ty : TypeId} {pos : String} {after : Array Edge} {gd : Option (Nat × Bool)} {fr : List (Nat × SV)} {rows : List (Nat × Bool × SRow)} {nx n : Nat} {K : St → Prop}
    {t e : TypeId} {sz : Nat} (hd : Nat.blt d n = true) (ht : C.P.underlying t = some (.slice e)) (hs : ∀ w, (sizeOf e).run C.P w = .ok sz w)
    (h : ∀ g, K ⟨(d, .any (.slice (some ⟨g, 0, none⟩) 0 0)) :: fr, (nx, true, .blob (OwnS e sz g 0 0 [])) :: rows, nx + 1, n⟩) :
    OpX C ⟨some d, .buildSlice t 0 ⟨[]⟩, ty, pos, after, gd⟩ ⟨fr, rows, nx, n⟩ K := by
  unfold OpX
  intro β a w hs0 next Q hn
  have q0 : (underlying t).run C.P w = .ok (.slice e) w := by simp [underlying, ht]
  have hrun : (execOp a.eval ⟨some d, .buildSlice t 0 ⟨[]⟩, ty, pos, after, gd⟩).run C.P w = .ok (.value (.slice (some ⟨w.heap.size, 0, none⟩) 0 0)) (w.alloc (.cells #[] e)) := by
    have hr : Array.range 0 = #[] := rfl
    simp [execOp, Instr.buildSlice, q0, hs, Instr.fill, newRow, World.alloc_eq, hr]
  unfold Oper.wp
  rw [hrun]
  have hs2 := hs0.alloc (r := .blob (OwnS e sz w.heap.size 0 0 [])) trivial (.cells #[] e) (fun β' hb => ⟨by simp, rfl, #[], by have := Row.new w e #[]; unfold Row at this; exact this, Nat.le_refl _, by unfold maxLen; omega, by simp, by simp, by simp⟩) rfl
  have hs3 := hs2.put (d := d) (by simpa [Nat.blt_eq] using hd) (v := .any (.slice (some ⟨w.heap.size, 0, none⟩) 0 0)) rfl
  exact hn _ _ _ _ (h w.heap.size) hs3
/-- a call that answers with a slice of its own making that may be written -/
def OwnOut (e : TypeId) (n : Nat) (xs : List Value) (w : World) (ev : Ending) (w' : World) : Prop := ∃ g cap, ev = .returned (.slice (some ⟨g, 0, none⟩) n cap) ∧ w.heap.size ≤ g ∧ g < w'.heap.size ∧ OwnS e 1 g n cap xs g w'.heap[g]? ∧ Below w.heap.size w w'
theorem callOwn {C : Ctx} {d : Nat} {f : FuncId} {args : List SV} {fr : List (Nat × SV)} {rows : List (Nat × Bool × SRow)} {nx n : Nat} {K : St → Prop} (e : TypeId) (m : Nat) (xs : List Value)
    (he : entersB C.P f = true) (hd : Nat.blt d n = true) (hc : ∀ β w, Mem C.base C.w0 rows nx β w → Calls C.P f (SV.dens β args).toArray w (OwnOut e m xs w))
    (h : ∀ g cap, K ⟨(d, .any (.slice (some ⟨g, 0, none⟩) m cap)) :: fr, (nx, true, .blob (OwnS e 1 g m cap xs)) :: rows, nx + 1, n⟩) : CallX C (some d) f args ⟨fr, rows, nx, n⟩ K := by
  unfold CallX
  refine ⟨he, fun β a w hs => (hc β w hs.mem).mono ?_⟩
  rintro ev w' ⟨g, cap, rfl, h1, h2, h3, hb⟩
  have hm := hs.mem
  have hs' : Sat C.base C.w0 ⟨fr, rows, nx, n⟩ β a w' := ⟨hs.defers, hs.size, hs.slot, hm.belowNext hb⟩
  have hs2 := hs'.learn (o := true) (b := g) (Φ := OwnS e 1 g m cap xs) h2 h3 (fun _ => ⟨Nat.le_trans hm.base_le h1, fun i o' r hi => by have := hm.lt i (hm.row i o' r hi).2.2.1; omega⟩) (fun i r hi => by have := hm.lt i (hm.row i true r hi).2.2.1; omega)
  have hs3 := hs2.put (d := d) (by simpa [Nat.blt_eq] using hd) (v := .any (.slice (some ⟨g, 0, none⟩) m cap)) rfl
  exact ⟨_, _, _, rfl, h g cap, hs3⟩
theorem retOwn {base : Nat} {w0 : Base} {rows : List (Nat × Bool × SRow)} {nx : Nat} {β : Nat → Nat} {w : World} (hm : Mem base w0 rows nx β w) (j : Nat) {e : TypeId} {g n cap : Nat} {xs : List Value} (hj : get rows j = some (true, .blob (OwnS e 1 g n cap xs))) : base ≤ g ∧ g < w.heap.size ∧ OwnS e 1 g n cap xs g w.heap[g]? := by
  obtain ⟨h1, -, -, h4⟩ := hm.row j _ _ hj
  have hg : β j = g := h1.2.1
  have h1' := h1.2
  rw [hg] at h1'
  exact ⟨by rw [← hg]; exact h4 rfl, by rw [← hg]; exact h1.1, h1'⟩
end Sym
end Go.Proofs.YtdkhkfdenlabaaaGreatDoor
namespace Go.Proofs.YtdkhkfdenlabaaaGreatDoor
open Go.RowKit
namespace Sym
open ExP (nd)
theorem Sat.copy {base : Nat} {w0 : Base} {β : Nat → Nat} {a : Act} {w : World} {fr : List (Nat × SV)} {rows : List (Nat × Bool × SRow)} {nx n : Nat} (i j : Nat) {Φ : Nat → Option Obj → Prop} (hs : Sat base w0 ⟨fr, rows, nx, n⟩ β a w) (hj : get rows j = some (false, .blob Φ)) (hi : i < nx) (hij : i ≠ j) (hn0 : w0.n0 ≤ i)
    (hno : (mentF i fr || mentR i rows) = false) : Sat base w0 ⟨fr, (i, false, .blob Φ) :: rows, nx, n⟩ (fun q => if q = i then β j else β q) a w := by
  obtain ⟨h1, h2, h3, h4⟩ := hs
  simp only [Bool.or_eq_false_iff] at hno
  have hβ : ∀ q, q ≠ i → (fun q => if q = i then β j else β q) q = β q := fun q hq => by dsimp only; rw [if_neg hq]
  obtain ⟨k1, -, k3, -⟩ := h4.row j _ _ hj
  refine ⟨h1, h2, fun s v hv => ?_, ?_⟩
  · obtain ⟨e1, e2⟩ := h3 s v hv
    exact ⟨by rw [e1, ment_den hβ v (mentF_get fr hno.1 hv)], e2⟩
  refine ⟨h4.below, h4.base_le, fun q o r hq => ?_, fun q hq => ?_, fun q p r o r' hq hp hpq => ?_, h4.n0, fun q hq => ?_⟩
  · rw [get_cons] at hq
    by_cases e : i = q
    · rw [if_pos e] at hq
      cases hq
      subst e
      try dsimp only
      rw [if_pos rfl]
      exact ⟨k1, trivial, hi, fun e => by cases e⟩
    · rw [if_neg e] at hq
      obtain ⟨m1, m2, m3, m4⟩ := h4.row q o r hq
      try dsimp only
      rw [if_neg (fun e' => e e'.symm)]
      refine ⟨?_, m2, m3, m4⟩
      cases r with
      | cells t cs => simp only [RowIs] at m1 ⊢; rw [ments_den hβ cs (mentR_get rows hno.2 hq)]; exact m1
      | blob Φ => exact m1
  · have hq : q < nx := hq
    try dsimp only
    split
    · exact h4.lt j k3
    · exact h4.lt q hq
  · rw [get_cons] at hq hp
    by_cases e : i = q
    · rw [if_pos e] at hq; cases hq
    · rw [if_neg e] at hq
      have e' : ¬ q = i := fun e' => e e'.symm
      try dsimp only
      rw [if_neg e']
      by_cases e2 : i = p
      · rw [if_pos e2.symm]
        refine h4.inj q j r false _ hq hj (fun e3 => ?_)
        subst e3
        rw [hj] at hq; cases hq
      · rw [if_neg e2] at hp
        have e4 : ¬ p = i := fun e' => e2 e'.symm
        rw [if_neg e4]
        exact h4.inj q p r o r' hq hp hpq
  · have hq : q < w0.n0 := hq
    try dsimp only
    rw [if_neg (by omega)]; exact h4.ext q hq
theorem back_copy {C : Ctx} {I : Act → World → Prop} {fr : List (Nat × SV)} {rows : List (Nat × Bool × SRow)} {nx n : Nat} (i j : Nat) {Φ : Nat → Option Obj → Prop} (hj : get rows j = some (false, .blob Φ)) (hi : Nat.blt i nx = true) (hij : Nat.beq i j = false) (hn0 : C.w0.n0 ≤ i)
    (hno : (mentF i fr || mentR i rows) = false) (h : BackN C I ⟨fr, (i, false, .blob Φ) :: rows, nx, n⟩) : BackN C I ⟨fr, rows, nx, n⟩ := by
  unfold BackN at h ⊢
  intro β a w hs
  exact h _ a w (hs.copy i j hj (by simpa [Nat.blt_eq] using hi) (Nat.ne_of_beq_eq_false hij) hn0 hno)
/-- an argument's slice gets a number -/
theorem loop_learnA {C : Ctx} {c : Code} {k : List It} {fr : List (Nat × SV)} {rows : List (Nat × Bool × SRow)} {nx n : Nat} (a : Option Addr) (xs : List Value) (h0 : 0 < C.base) (hb : C.base = C.w0.w.heap.size) (hA : SlAt a xs C.w0.w)
    (h : LoopN C c k ⟨fr, (nx, false, .blob (SlB a xs)) :: rows, nx + 1, n⟩) : LoopN C c k ⟨fr, rows, nx, n⟩ := by
  unfold LoopN at h ⊢
  intro β act w hs
  have hm := hs.mem
  have hbl : Below C.w0.w.heap.size C.w0.w w := by rw [← hb]; exact hm.below
  have hex : ∃ b, b < C.base ∧ SlB a xs b w.heap[b]? := by
    cases xs with
    | nil => exact ⟨0, h0, fun _ _ i v hi => by simp at hi⟩
    | cons x r =>
      obtain ⟨ad, e, h1, _⟩ := hA 0 x rfl
      refine ⟨ad.block, by omega, fun W hW i v hi => ?_⟩
      obtain ⟨ad', e', h2, h3⟩ := (hA.below hbl) i v hi
      rw [e] at e'
      cases e'
      exact ⟨ad, e, rfl, by rw [World.cell?_of_block (w := w) (by rw [add_block]; exact hW)]; exact h3⟩
  obtain ⟨b, hb1, hb2⟩ := hex
  have hbl2 := hm.base_le
  exact h _ _ _ (hs.learn (o := false) (b := b) (Φ := SlB a xs) (by omega) hb2 (fun e => by cases e) (fun i r hi => by
    have := (hm.row i true r hi).2.2.2 rfl
    omega))
theorem Mem.slB {base : Nat} {w0 : Base} {rows : List (Nat × Bool × SRow)} {nx : Nat} {β : Nat → Nat} {w : World} (hm : Mem base w0 rows nx β w) (j : Nat) {o : Bool} {a : Option Addr} {xs : List Value} (hj : get rows j = some (o, .blob (SlB a xs))) : SlAt a xs w :=
  (hm.row j _ _ hj).1.2.at (hm.row j _ _ hj).1.1
/-- a function that answers with a number as a slice, perhaps one of those that it was given -/
def NatAny (L : List (Option Addr)) (k : IntKind) (b x : Nat) (w : World) (e : Ending) (w' : World) : Prop :=
  ∃ a cap, e = .returned (.slice a (nd b x) cap) ∧ SlAt a (nv k b x) w' ∧ (FreshX a (nv k b x) w ∨ a ∈ L) ∧ (a = none → cap = 0) ∧ nd b x ≤ cap ∧ Below w.heap.size w w'
/-- what is not newly made lies apart from the blocks of one's own -/
def ApartL (C : Ctx) (L : List (Option Addr)) (rows : List (Nat × Bool × SRow)) (nx : Nat) : Prop := ∀ β w, Mem C.base C.w0 rows nx β w → ∀ ad, some ad ∈ L → ∀ i r, get rows i = some (true, r) → β i ≠ ad.block
theorem callNatL {C : Ctx} {d : Nat} {f : FuncId} {args : List SV} {fr : List (Nat × SV)} {rows : List (Nat × Bool × SRow)} {nx n : Nat} {K : St → Prop} (L : List (Option Addr)) (k : IntKind) (b x : Nat) (h0 : 0 < C.base)
    (he : entersB C.P f = true) (hd : Nat.blt d n = true) (hL : ApartL C L rows nx) (hc : ∀ β w, Mem C.base C.w0 rows nx β w → Calls C.P f (SV.dens β args).toArray w (NatAny L k b x w))
    (h : ∀ a cap, (a = none → cap = 0) → nd b x ≤ cap → (0 < nd b x → ∃ ad, a = some ad) → K ⟨(d, .any (.slice a (nd b x) cap)) :: fr, (nx, false, .blob (SlB a (nv k b x))) :: rows, nx + 1, n⟩) : CallX C (some d) f args ⟨fr, rows, nx, n⟩ K := by
  unfold CallX
  refine ⟨he, fun β act w hs => (hc β w hs.mem).mono ?_⟩
  rintro e w' ⟨a, cap, rfl, hsl, hfr, hn, hcap, hb⟩
  have hm := hs.mem
  have hs' : Sat C.base C.w0 ⟨fr, rows, nx, n⟩ β act w' := ⟨hs.defers, hs.size, hs.slot, hm.belowNext hb⟩
  have hbs := hb.size
  have hbl := hm.base_le
  have hex : ∃ q, q < w'.heap.size ∧ SlB a (nv k b x) q w'.heap[q]? ∧ ∀ i r, get rows i = some (true, r) → β i ≠ q := by
    have hsl0 := hsl
    generalize nv k b x = xs at hsl hsl0 hfr
    cases xs with
    | nil => exact ⟨0, by omega, fun _ _ i v hi => by simp at hi, fun i r hi => by have := (hm.row i true r hi).2.2.2 rfl; omega⟩
    | cons y r =>
      obtain ⟨ad, e, h1, _⟩ := hsl 0 y rfl
      refine ⟨ad.block, h1, fun W hW i v hi => ?_, fun i r hi => ?_⟩
      · obtain ⟨ad', e', h2, h3⟩ := hsl i v hi
        rw [e] at e'
        cases e'
        exact ⟨ad, e, rfl, by rw [World.cell?_of_block (w := w') (by rw [add_block]; exact hW)]; exact h3⟩
      · rcases hfr with hfr | hfr
        · have := hfr (by simp) ad e
          have := hm.lt i (hm.row i true r hi).2.2.1
          omega
        · exact hL β w hm ad (by rw [← e]; exact hfr) i r hi
  obtain ⟨q, h2, h3, h4⟩ := hex
  have hs2 := hs'.learn (o := false) h2 h3 (fun e => by cases e) h4
  have hs3 := hs2.put (d := d) (by simpa [Nat.blt_eq] using hd) (v := .any (.slice a (nd b x) cap)) rfl
  exact ⟨_, _, _, rfl, h a cap hn hcap (fun hx => hsl.some (nv_ne hx)), hs3⟩
/-- a slice of one's own is no longer written -/
theorem Sat.share {base : Nat} {w0 : Base} {β : Nat → Nat} {a : Act} {w : World} {fr : List (Nat × SV)} {rows : List (Nat × Bool × SRow)} {nx n : Nat} (i : Nat) {e : TypeId} {sz g m cap : Nat} {xs ys : List Value} (hs : Sat base w0 ⟨fr, rows, nx, n⟩ β a w) (hi : get rows i = some (true, .blob (OwnS e sz g m cap xs)))
    (hp : ∀ (j : Nat) (v : Value), ys[j]? = some v → xs[j]? = some v) : Sat base w0 ⟨fr, (i, false, .blob (SlF base (some ⟨g, 0, none⟩) ys)) :: rows, nx, n⟩ β a w := by
  obtain ⟨h1, h2, h3, h4⟩ := hs
  obtain ⟨k1, -, k3, k4⟩ := h4.row i _ _ hi
  refine ⟨h1, h2, h3, ⟨h4.below, h4.base_le, fun q o r hq => ?_, h4.lt, fun q p r o r' hq hp' hpq => ?_, h4.n0, h4.ext⟩⟩
  · rw [get_cons] at hq
    by_cases e0 : i = q
    · rw [if_pos e0] at hq
      cases hq
      subst e0
      refine ⟨⟨k1.1, fun W hW j v hj => ?_, fun _ => k4 rfl⟩, trivial, k3, fun e => by cases e⟩
      have hg : β i = g := k1.2.1
      have ho : OwnS e sz g m cap xs (β i) W.heap[β i]? := by rw [hW]; exact k1.2
      exact ⟨_, rfl, hg.symm, ho.cell j v (hp j v hj)⟩
    · rw [if_neg e0] at hq
      exact h4.row q o r hq
  · have hq' : get rows q = some (true, r) := by
      rw [get_cons] at hq
      by_cases e0 : i = q
      · rw [if_pos e0] at hq; cases hq
      · rw [if_neg e0] at hq; exact hq
    have hp2 : ∃ o1 r1, get rows p = some (o1, r1) := by
      rw [get_cons] at hp'
      by_cases e0 : i = p
      · subst e0; exact ⟨_, _, hi⟩
      · rw [if_neg e0] at hp'; exact ⟨_, _, hp'⟩
    obtain ⟨o1, r1, hp2⟩ := hp2
    exact h4.inj q p r o1 r1 hq' hp2 hpq
theorem loop_share {C : Ctx} {c : Code} {k : List It} {fr : List (Nat × SV)} {rows : List (Nat × Bool × SRow)} {nx n : Nat} (i : Nat) {e : TypeId} {sz g m cap : Nat} {xs : List Value} (ys : List Value) (hi : get rows i = some (true, .blob (OwnS e sz g m cap xs)))
    (hp : ∀ (j : Nat) (v : Value), ys[j]? = some v → xs[j]? = some v) (h : m ≤ cap → LoopN C c k ⟨fr, (i, false, .blob (SlF C.base (some ⟨g, 0, none⟩) ys)) :: rows, nx, n⟩) : LoopN C c k ⟨fr, rows, nx, n⟩ := by
  unfold LoopN at h ⊢
  intro β a w hs
  have hc : m ≤ cap := by
    obtain ⟨h1, -⟩ := hs.mem.row i _ _ hi
    obtain ⟨-, cur, -, h, -⟩ := h1.2
    exact h
  exact h hc β a w (hs.share i hi hp)
theorem fresh_or {k : IntKind} {b x : Nat} {a : Option Addr} {L : List (Option Addr)} {w : World} (h : 0 < x → a ∈ L) : FreshX a (nv k b x) w ∨ a ∈ L := by
  rcases Nat.eq_zero_or_pos x with rfl | h0
  · exact .inl fun hne => absurd (List.eq_nil_of_length_eq_zero (by rw [nv_len, ExP.nd_zero])) hne
  · exact .inr (h h0)
theorem slL_or {k : IntKind} {b x : Nat} {a : Option Addr} {L : List (Option Addr)} {base q : Nat} (h : 0 < x → a ∈ L) : (nv k b x ≠ [] → base ≤ q) ∨ a ∈ L := by
  rcases Nat.eq_zero_or_pos x with rfl | h0
  · exact .inl fun hne => absurd (List.eq_nil_of_length_eq_zero (by rw [nv_len, ExP.nd_zero])) hne
  · exact .inr (h h0)
/-- an address if what lies there is not nothing -/
def Lz (x : Nat) (a : Option Addr) (L : List (Option Addr)) : List (Option Addr) := if x = 0 then L else a :: L
theorem Lz_in {x : Nat} {a : Option Addr} {L : List (Option Addr)} (h : 0 < x) : a ∈ Lz x a L := by unfold Lz; rw [if_neg (by omega)]; simp
theorem Lz_mem {x : Nat} {a c : Option Addr} {L : List (Option Addr)} (h : c ∈ L) : c ∈ Lz x a L := by unfold Lz; split <;> simp [h]
theorem apart_nil {C : Ctx} {rows : List (Nat × Bool × SRow)} {nx : Nat} : ApartL C [] rows nx := fun _ _ _ _ h => by cases h
theorem apart_row {C : Ctx} {L : List (Option Addr)} {rows : List (Nat × Bool × SRow)} {nx : Nat} {a : Option Addr} {k : IntKind} {b x bs : Nat} (j : Nat) (hb : 2 ≤ b) (hj : get rows j = some (false, .blob (SlF bs a (nv k b x)))) (h : ApartL C L rows nx) : ApartL C (Lz x a L) rows nx := by
  intro β w hm ad hL i r hi
  unfold Lz at hL
  split at hL
  · exact h β w hm ad hL i r hi
  rename_i hx
  rcases List.mem_cons.1 hL with e | hL
  · subst e
    obtain ⟨ad', e1, e2, -⟩ := (hm.row j _ _ hj).1.2.1 w rfl 0 _ (nv_get ((ExP.nd_pos hb).2 (Nat.pos_of_ne_zero hx)))
    cases e1
    rw [e2]
    refine fun e3 => hm.inj i j r _ _ hi hj (fun e => ?_) e3.symm
    subst e
    rw [hi] at hj
    cases hj
  · exact h β w hm ad hL i r hi
theorem apart_old {C : Ctx} {L : List (Option Addr)} {rows : List (Nat × Bool × SRow)} {nx : Nat} {a : Option Addr} {k : IntKind} {b x : Nat} {w0 : World} (hb : 2 ≤ b) (hs : SlAt a (nv k b x) w0) (e : w0.heap.size = C.base) (h : ApartL C L rows nx) : ApartL C (Lz x a L) rows nx := by
  intro β w hm ad hL i r hi
  unfold Lz at hL
  split at hL
  · exact h β w hm ad hL i r hi
  rename_i hx
  rcases List.mem_cons.1 hL with e1 | hL
  · subst e1
    obtain ⟨ad', e1, e2, -⟩ := hs 0 _ (nv_get ((ExP.nd_pos hb).2 (Nat.pos_of_ne_zero hx)))
    cases e1
    have := (hm.row i true r hi).2.2.2 rfl
    omega
  · exact h β w hm ad hL i r hi
end Sym
end Go.Proofs.YtdkhkfdenlabaaaGreatDoor
namespace Go.Proofs.YtdkhkfdenlabaaaGreatDoor
open Go.RowKit
namespace Sym
open ExP (nd)
def addR (base : Nat) : Nat → List (Option Addr × List Value) → List (Nat × Bool × SRow) → List (Nat × Bool × SRow)
  | _, [], rows => rows
  | nx, (a, xs) :: r, rows => addR base (nx + 1) r ((nx, false, .blob (SlF base a xs)) :: rows)
theorem Sat.learns {base : Nat} {w0 : Base} {act : Act} {w w' : World} {fr : List (Nat × SV)} {n : Nat} (h0 : 0 < base) (hb : base ≤ w.heap.size) (hb' : w.heap.size ≤ w'.heap.size) : ∀ (l : List (Option Addr × List Value)) (rows : List (Nat × Bool × SRow)) (nx : Nat) (β : Nat → Nat),
    Sat base w0 ⟨fr, rows, nx, n⟩ β act w' → (∀ i r, get rows i = some (true, r) → base ≤ β i ∧ β i < w.heap.size) → (∀ p ∈ l, SlAt p.1 p.2 w' ∧ FreshX p.1 p.2 w) →
    ∃ β', Sat base w0 ⟨fr, addR base nx l rows, nx + l.length, n⟩ β' act w' ∧ ∀ i, i < nx → β' i = β i
  | [], rows, nx, β, hs, _, _ => ⟨β, hs, fun _ _ => rfl⟩
  | (a, xs) :: r, rows, nx, β, hs, ho, hl => by
    obtain ⟨h1, h2⟩ := hl (a, xs) (by simp)
    obtain ⟨b, g1, g2, g3⟩ := h1.toF h2 hb h0 (by omega)
    have hlt : ∀ i o q, get rows i = some (o, q) → i < nx := fun i o q hi => (hs.mem.row i o q hi).2.2.1
    have hs2 := hs.learn (o := false) g2 g3 (fun e => by cases e) (fun i q hi => by have := ho i q hi; omega)
    obtain ⟨β', k1, k2⟩ := Sat.learns h0 hb hb' r _ (nx + 1) _ hs2 (fun i q hi => by
      rw [get_cons] at hi
      by_cases e0 : nx = i
      · rw [if_pos e0] at hi; cases hi
      · rw [if_neg e0] at hi
        have := hlt _ _ _ hi
        rw [if_neg (by omega)]
        exact ho i q hi) (fun p hp => hl p (by simp [hp]))
    refine ⟨β', ?_, fun i hi => ?_⟩
    · have e : nx + ((a, xs) :: r).length = nx + 1 + r.length := by simp only [List.length_cons]; omega
      rw [e]; exact k1
    · rw [k2 i (by omega)]; rw [if_neg (by omega)]
/-- a call that answers with slices of its own making, among others -/
theorem callSls {C : Ctx} {d : Nat} {f : FuncId} {args : List SV} {fr : List (Nat × SV)} {rows : List (Nat × Bool × SRow)} {nx n : Nat} {K : St → Prop} {T : Type}
    (V : T → SV) (L : T → List (Option Addr × List Value)) (h0 : 0 < C.base)
    (he : entersB C.P f = true) (hd : Nat.blt d n = true) (hv : ∀ t, (V t).ok nx) (hc : ∀ β w, Mem C.base C.w0 rows nx β w → Calls C.P f (SV.dens β args).toArray w fun e w' => Below w.heap.size w w' ∧ ∃ t, e = .returned ((V t).den β) ∧ ∀ p ∈ L t, SlAt p.1 p.2 w' ∧ FreshX p.1 p.2 w)
    (h : ∀ t, (∀ p ∈ L t, p.2 ≠ [] → ∃ ad, p.1 = some ad) → K ⟨(d, V t) :: fr, addR C.base nx (L t) rows, nx + (L t).length, n⟩) : CallX C (some d) f args ⟨fr, rows, nx, n⟩ K := by
  unfold CallX
  refine ⟨he, fun β a w hs => (hc β w hs.mem).mono ?_⟩
  rintro e w' ⟨hb, t, rfl, hl⟩
  have hm := hs.mem
  have hs' : Sat C.base C.w0 ⟨fr, rows, nx, n⟩ β a w' := ⟨hs.defers, hs.size, hs.slot, hm.belowNext hb⟩
  obtain ⟨β', k1, k2⟩ := Sat.learns (w := w) h0 hm.base_le hb.size (L t) rows nx β hs' (fun i r hi => ⟨(hm.row i true r hi).2.2.2 rfl, hm.lt i (hm.row i true r hi).2.2.1⟩) hl
  have hs3 := k1.put (d := d) (by simpa [Nat.blt_eq] using hd) (SV.ok_mono (Nat.le_add_right _ _) _ (hv t))
  have e1 : (V t).den β' = (V t).den β := SV.den_ext (n := nx) k2 _ (hv t)
  rw [e1] at hs3
  exact ⟨_, _, _, rfl, h t (fun p hp hx => (hl p hp).1.some hx), hs3⟩
end Sym
open Sym
/-- a fraction as a struct of two slices -/
structure FrV where
  m : Bool
  n : Nat
  d : Nat
  a : Option Addr
  c : Nat
  b : Option Addr
  e : Nat
def FrV.num (x : FrV) : ExP.Num := ⟨x.m, x.n, x.d⟩
def FrV.val (b : Nat) (x : FrV) : Value := .agg #[.bool x.m, .slice x.a (ExP.nd b x.n) x.c, .slice x.b (ExP.nd b x.d) x.e]
def FrV.sv (b : Nat) (x : FrV) : SV := .agg [.bool x.m, .any (.slice x.a (ExP.nd b x.n) x.c), .any (.slice x.b (ExP.nd b x.d) x.e)]
structure FrCap (b : Nat) (x : FrV) : Prop where
  an : x.a = none → x.c = 0
  bn : x.b = none → x.e = 0
  cn : ExP.nd b x.n ≤ x.c
  cd : ExP.nd b x.d ≤ x.e
structure FrIn (k : IntKind) (b : Nat) (x : FrV) (w : World) : Prop where
  sn : SlAt x.a (nv k b x.n) w
  sd : SlAt x.b (nv k b x.d) w
  cap : FrCap b x
theorem FrIn.below {k : IntKind} {b : Nat} {x : FrV} {w w' : World} (h : FrIn k b x w) (hb : Below w.heap.size w w') : FrIn k b x w' := ⟨h.sn.below hb, h.sd.below hb, h.cap⟩
def FrV.L (k : IntKind) (b : Nat) (x : FrV) : List (Option Addr × List Value) := [(x.a, nv k b x.n), (x.b, nv k b x.d)]
/-- a function that answers with a fraction of its own making -/
def FrOut (k : IntKind) (b : Nat) (x : ExP.Num) (w : World) (e : Ending) (w' : World) : Prop :=
  ∃ t : FrV, e = .returned (t.val b) ∧ t.num = x ∧ FrCap b t ∧ (∀ p ∈ t.L k b, SlAt p.1 p.2 w' ∧ FreshX p.1 p.2 w) ∧ Below w.heap.size w w'
/-- with an error -/
def FrOutE (k : IntKind) (b : Nat) (x : ExP.Num) (err : Int) (w : World) (e : Ending) (w' : World) : Prop :=
  ∃ t : FrV, e = .returned (.tuple #[t.val b, .int .i64 err]) ∧ t.num = x ∧ FrCap b t ∧ (∀ p ∈ t.L k b, SlAt p.1 p.2 w' ∧ FreshX p.1 p.2 w) ∧ Below w.heap.size w w'
/-- two of them -/
def FrOutEE (k : IntKind) (b : Nat) (x y : ExP.Num) (err : Int) (w : World) (e : Ending) (w' : World) : Prop :=
  ∃ t u : FrV, e = .returned (.tuple #[t.val b, u.val b, .int .i64 err]) ∧ t.num = x ∧ u.num = y ∧ FrCap b t ∧ FrCap b u ∧ (∀ p ∈ t.L k b ++ u.L k b, SlAt p.1 p.2 w' ∧ FreshX p.1 p.2 w) ∧ Below w.heap.size w w'
section
variable {C : Ctx} {d : Nat} {f : FuncId} {args : List SV} {fr : List (Nat × SV)} {rows : List (Nat × Bool × SRow)} {nx n : Nat} {K : St → Prop}
theorem callFr (k : IntKind) (b : Nat) (x : ExP.Num) (h0 : 0 < C.base)
    (he : entersB C.P f = true) (hd : Nat.blt d n = true) (hc : ∀ β w, Mem C.base C.w0 rows nx β w → Calls C.P f (SV.dens β args).toArray w (FrOut k b x w))
    (h : ∀ a c a2 c2, FrCap b ⟨x.m, x.n, x.d, a, c, a2, c2⟩ → K ⟨(d, .agg [.bool x.m, .any (.slice a (ExP.nd b x.n) c), .any (.slice a2 (ExP.nd b x.d) c2)]) :: fr, (nx + 1, false, .blob (SlF C.base a2 (nv k b x.d))) :: (nx, false, .blob (SlF C.base a (nv k b x.n))) :: rows, nx + 2, n⟩) : CallX C (some d) f args ⟨fr, rows, nx, n⟩ K :=
  callSls (T := {t : FrV // t.num = x ∧ FrCap b t}) (fun t => t.1.sv b) (fun t => t.1.L k b) h0 he hd (fun t => ⟨trivial, rfl, rfl, trivial⟩)
    (fun β w hm => (hc β w hm).mono fun e w' ⟨t, he, h1, h2, h3, h4⟩ => ⟨h4, ⟨t, h1, h2⟩, he, h3⟩)
    (fun t _ => by
      obtain ⟨⟨m, tn, td, a, c, a2, c2⟩, rfl, h2⟩ := t
      exact h a c a2 c2 h2)
theorem callFrE (k : IntKind) (b : Nat) (x : ExP.Num) (err : Int) (h0 : 0 < C.base)
    (he : entersB C.P f = true) (hd : Nat.blt d n = true) (hc : ∀ β w, Mem C.base C.w0 rows nx β w → Calls C.P f (SV.dens β args).toArray w (FrOutE k b x err w))
    (h : ∀ a c a2 c2, FrCap b ⟨x.m, x.n, x.d, a, c, a2, c2⟩ → K ⟨(d, .tup [.agg [.bool x.m, .any (.slice a (ExP.nd b x.n) c), .any (.slice a2 (ExP.nd b x.d) c2)], .int .i64 err]) :: fr, (nx + 1, false, .blob (SlF C.base a2 (nv k b x.d))) :: (nx, false, .blob (SlF C.base a (nv k b x.n))) :: rows, nx + 2, n⟩) : CallX C (some d) f args ⟨fr, rows, nx, n⟩ K :=
  callSls (T := {t : FrV // t.num = x ∧ FrCap b t}) (fun t => .tup [t.1.sv b, .int .i64 err]) (fun t => t.1.L k b) h0 he hd (fun t => ⟨⟨trivial, rfl, rfl, trivial⟩, trivial, trivial⟩)
    (fun β w hm => (hc β w hm).mono fun e w' ⟨t, he, h1, h2, h3, h4⟩ => ⟨h4, ⟨t, h1, h2⟩, he, h3⟩)
    (fun t _ => by
      obtain ⟨⟨m, tn, td, a, c, a2, c2⟩, rfl, h2⟩ := t
      exact h a c a2 c2 h2)
theorem callFrEE (k : IntKind) (b : Nat) (x y : ExP.Num) (err : Int) (h0 : 0 < C.base)
    (he : entersB C.P f = true) (hd : Nat.blt d n = true) (hc : ∀ β w, Mem C.base C.w0 rows nx β w → Calls C.P f (SV.dens β args).toArray w (FrOutEE k b x y err w))
    (h : ∀ a c a2 c2 p q p2 q2, FrCap b ⟨x.m, x.n, x.d, a, c, a2, c2⟩ → FrCap b ⟨y.m, y.n, y.d, p, q, p2, q2⟩ → K ⟨(d, .tup [.agg [.bool x.m, .any (.slice a (ExP.nd b x.n) c), .any (.slice a2 (ExP.nd b x.d) c2)], .agg [.bool y.m, .any (.slice p (ExP.nd b y.n) q), .any (.slice p2 (ExP.nd b y.d) q2)], .int .i64 err]) :: fr,
      (nx + 1 + 1 + 1, false, .blob (SlF C.base p2 (nv k b y.d))) :: (nx + 1 + 1, false, .blob (SlF C.base p (nv k b y.n))) :: (nx + 1, false, .blob (SlF C.base a2 (nv k b x.d))) :: (nx, false, .blob (SlF C.base a (nv k b x.n))) :: rows, nx + 4, n⟩) : CallX C (some d) f args ⟨fr, rows, nx, n⟩ K :=
  callSls (T := {t : FrV × FrV // t.1.num = x ∧ t.2.num = y ∧ FrCap b t.1 ∧ FrCap b t.2}) (fun t => .tup [t.1.1.sv b, t.1.2.sv b, .int .i64 err]) (fun t => t.1.1.L k b ++ t.1.2.L k b) h0 he hd (fun t => ⟨⟨trivial, rfl, rfl, trivial⟩, ⟨trivial, rfl, rfl, trivial⟩, trivial, trivial⟩)
    (fun β w hm => (hc β w hm).mono fun e w' ⟨t, u, he, h1, h2, h3, h4, h5, h6⟩ => ⟨h6, ⟨(t, u), h1, h2, h3, h4⟩, he, h5⟩)
    (fun t _ => by
      obtain ⟨⟨⟨m, tn, td, a, c, a2, c2⟩, ⟨m', tn', td', p, q, p2, q2⟩⟩, rfl, rfl, h2, h3⟩ := t
      exact h a c a2 c2 p q p2 q2 h2 h3)
end
theorem Ls2 {w w' : World} {k : IntKind} {b : Nat} {t : FrV} (h1 : SlAt t.a (nv k b t.n) w') (h2 : FreshX t.a (nv k b t.n) w) (h3 : SlAt t.b (nv k b t.d) w') (h4 : FreshX t.b (nv k b t.d) w) : ∀ p ∈ t.L k b, SlAt p.1 p.2 w' ∧ FreshX p.1 p.2 w := fun p hp => by
  simp only [FrV.L, List.mem_cons, List.not_mem_nil, or_false] at hp
  rcases hp with rfl | rfl
  · exact ⟨h1, h2⟩
  · exact ⟨h3, h4⟩
theorem nv_zero (k : IntKind) (b : Nat) : nv k b 0 = [] := List.eq_nil_of_length_eq_zero (by rw [nv_len, ExP.nd_zero])
theorem Ls0 {w w' : World} {k : IntKind} {b : Nat} {m : Bool} {a a2 : Option Addr} {c c2 : Nat} : ∀ p ∈ (⟨m, 0, 0, a, c, a2, c2⟩ : FrV).L k b, SlAt p.1 p.2 w' ∧ FreshX p.1 p.2 w :=
  Ls2 (by dsimp only; rw [nv_zero]; exact sl_nil _ _) (fun h => (h (nv_zero _ _)).elim) (by dsimp only; rw [nv_zero]; exact sl_nil _ _) (fun h => (h (nv_zero _ _)).elim)
theorem FrCap0 {b : Nat} {m : Bool} : FrCap b ⟨m, 0, 0, none, 0, none, 0⟩ := ⟨fun _ => rfl, fun _ => rfl, Nat.le_of_eq (ExP.nd_zero _), Nat.le_of_eq (ExP.nd_zero _)⟩
end Go.Proofs.YtdkhkfdenlabaaaGreatDoor
namespace Go.Proofs.YtdkhkfdenlabaaaGreatDoor
open Go.RowKit
namespace Sym
/-- rows but one -/
def del (j : Nat) : List (Nat × Bool × SRow) → List (Nat × Bool × SRow)
  | [] => []
  | (i, x) :: r => match Nat.beq i j with
    | true => del j r
    | false => (i, x) :: del j r
theorem get_del {j : Nat} : ∀ (rows : List (Nat × Bool × SRow)) (q : Nat), get (del j rows) q = if q = j then none else get rows q
  | [], q => by simp [del, get]
  | (i, x) :: r, q => by
    have ih := get_del (j := j) r q
    unfold del
    cases h : Nat.beq i j with
    | true =>
      have := Nat.eq_of_beq_eq_true h
      subst this
      dsimp only
      rw [ih, get_cons]
      by_cases e : q = i
      · rw [if_pos e, if_pos e]
      · rw [if_neg e, if_neg e, if_neg (fun e' => e e'.symm)]
    | false =>
      have hne := Nat.ne_of_beq_eq_false h
      dsimp only
      rw [get_cons, get_cons, ih]
      by_cases e : i = q
      · subst e; rw [if_pos rfl, if_neg hne]; simp
      · rw [if_neg e]; by_cases e2 : q = j
        · simp [e2]
        · simp [e2, e]
theorem Sat.own {base : Nat} {w0 : Base} {β : Nat → Nat} {a : Act} {w : World} {fr : List (Nat × SV)} {rows : List (Nat × Bool × SRow)} {nx n : Nat} (s i j : Nat) {t : TypeId} {cs : List SV} (hs : Sat base w0 ⟨fr, rows, nx, n⟩ β a w)
    (hsl : get fr s = some (.ptr j 0)) (hj : get rows j = some (true, .cells t cs)) (hi : i < nx) (hij : i ≠ j) (hn0 : w0.n0 ≤ i) (hgi : get rows i = none)
    (hno : (mentF i fr || mentR i rows) = false) : Sat base w0 ⟨(s, .ptr i 0) :: fr, (i, true, .cells t cs) :: del j rows, nx, n⟩ (fun q => if q = i then β j else β q) a w := by
  obtain ⟨h1, h2, h3, h4⟩ := hs
  simp only [Bool.or_eq_false_iff] at hno
  have hβ : ∀ q, q ≠ i → (fun q => if q = i then β j else β q) q = β q := fun q hq => by dsimp only; rw [if_neg hq]
  obtain ⟨k1, k2, k3, k4⟩ := h4.row j _ _ hj
  refine ⟨h1, h2, fun s' v hv => ?_, ?_⟩
  · rw [get_cons] at hv
    by_cases e : s = s'
    · rw [if_pos e] at hv
      cases hv
      subst e
      obtain ⟨e1, e2⟩ := h3 s _ hsl
      refine ⟨?_, hi⟩
      rw [e1]
      simp [SV.den]
    · rw [if_neg e] at hv
      obtain ⟨e1, e2⟩ := h3 s' v hv
      exact ⟨by rw [e1, ment_den hβ v (mentF_get fr hno.1 hv)], e2⟩
  refine ⟨h4.below, h4.base_le, fun q o r hq => ?_, fun q hq => ?_, fun q p r o r' hq hp hpq => ?_, h4.n0, fun q hq => ?_⟩
  · rw [get_cons] at hq
    by_cases e : i = q
    · rw [if_pos e] at hq
      cases hq
      subst e
      try dsimp only
      rw [if_pos rfl]
      refine ⟨?_, k2, hi, k4⟩
      simp only [RowIs] at k1 ⊢; rw [ments_den hβ cs (mentR_get rows hno.2 hj)]; exact k1
    · rw [if_neg e, get_del] at hq
      split at hq
      · cases hq
      obtain ⟨m1, m2, m3, m4⟩ := h4.row q o r hq
      try dsimp only
      rw [if_neg (fun e' => e e'.symm)]
      refine ⟨?_, m2, m3, m4⟩
      cases r with
      | cells t cs => simp only [RowIs] at m1 ⊢; rw [ments_den hβ cs (mentR_get rows hno.2 hq)]; exact m1
      | blob Φ => exact m1
  · have hq : q < nx := hq
    try dsimp only
    split
    · exact h4.lt j k3
    · exact h4.lt q hq
  · rw [get_cons] at hq hp
    by_cases e : i = q
    · rw [if_neg (fun e' => hpq (e'.symm.trans e)), get_del] at hp
      split at hp
      · cases hp
      rename_i hpj
      try dsimp only
      rw [if_pos e.symm, if_neg (fun e' => hpq (e'.trans e))]
      exact h4.inj j p _ o r' hj hp hpj
    · rw [if_neg e, get_del] at hq
      split at hq
      · cases hq
      rename_i hqj
      have e' : ¬ q = i := fun e' => e e'.symm
      try dsimp only
      rw [if_neg e']
      by_cases e2 : i = p
      · rw [if_pos e2.symm]
        exact h4.inj q j r _ _ hq hj (fun e3 => hqj e3.symm)
      · rw [if_neg e2, get_del] at hp
        split at hp
        · cases hp
        have e4 : ¬ p = i := fun e' => e2 e'.symm
        rw [if_neg e4]
        exact h4.inj q p r o r' hq hp hpq
  · have hq : q < w0.n0 := hq
    try dsimp only
    rw [if_neg (by omega)]; exact h4.ext q hq
end Sym
end Go.Proofs.YtdkhkfdenlabaaaGreatDoor
namespace Go.Proofs.YtdkhkfdenlabaaaGreatDoor
open Go.RowKit
namespace Sym
open ExP (nd)
end Sym
open Sym
end Go.Proofs.YtdkhkfdenlabaaaGreatDoor
