/- Values, plainly: texts divided at a byte, numbers as they ar Values, plainly: characters, texts, errors of values. Values, plainly: the calendar. Values, plainly: what is entered. A walk that reckons: slices held against nil, bools held aga -/
import Derived.Test.YtdkhkfdenlabaaaGreatDoorLGD
import Derived.Test.YtdkhkfdenlabaaaGreatDoorLGA
import Derived.Shelf.Unicode.DecodeSlow
import Derived.Lib.DecodeN
import Derived.Laws.Cover3
set_option linter.unusedSimpArgs false
set_option linter.unusedVariables false
set_option maxRecDepth 100000
set_option maxHeartbeats 64000000
namespace Go.Proofs.YtdkhkfdenlabaaaGreatDoor.VaP
open Go.Proofs.YtdkhkfdenlabaaaGreatDoor Go.Proofs.YtdkhkfdenlabaaaGreatDoor.ExP
def splitC (c : UInt8) : Str → List Str
 | [] => [[]]
 | x :: s => if x = c then [] :: splitC c s else match splitC c s with
   | [] => [[x]]
   | g :: l => (x :: g) :: l
theorem split_ne (c : UInt8) (s : Str) : splitC c s ≠ [] := by
 cases s with
 | nil => simp [splitC]
 | cons x s =>
   unfold splitC
   split
   ·simp
   ·split <;> simp
theorem split_no {c : UInt8} : ∀ {p : Str}, c ∉ p → splitC c p = [p]
 | [], _ => rfl
 | x :: p, h => by
   simp only [List.mem_cons, not_or] at h
   rw [splitC, if_neg (fun e => h.1 e.symm), split_no h.2]
theorem split_at {c : UInt8} : ∀ {p : Str} (q : Str), c ∉ p → splitC c (p ++ c :: q) = p :: splitC c q
 | [], q, _ => by
   show splitC c (c :: q) = _
   rw [splitC, if_pos rfl]
 | x :: p, q, h => by
   simp only [List.mem_cons, not_or] at h
   show splitC c (x :: (p ++ c :: q)) = _
   rw [splitC, if_neg (fun e => h.1 e.symm), split_at q h.2]
def cutB (c : UInt8) (s : Str) : Str × Str × Bool := if c ∈ s then (s.takeWhile (· != c), (s.dropWhile (· != c)).tail, true) else (s, [], false)
theorem take_no {c : UInt8} : ∀ s : Str, c ∉ s.takeWhile (· != c)
 | [] => by simp
 | x :: s => by
   by_cases h : x = c
   ·rw [List.takeWhile_cons_of_neg (by simp [h])]; simp
   ·rw [List.takeWhile_cons_of_pos (by simp [h])]
    simp only [List.mem_cons, not_or]
    exact ⟨fun e => h e.symm, take_no s⟩
theorem cut_app {c : UInt8} : ∀ {s : Str}, c ∈ s → s = s.takeWhile (· != c) ++ c :: (s.dropWhile (· != c)).tail
 | x :: s, h => by
   by_cases hx : x = c
   ·subst hx
    rw [List.takeWhile_cons_of_neg (by simp), List.dropWhile_cons_of_neg (by simp)]
    rfl
   ·rw [List.takeWhile_cons_of_pos (by simp [hx]), List.dropWhile_cons_of_pos (by simp [hx])]
    rw [List.cons_append, ← cut_app ((List.mem_cons.1 h).resolve_left (fun e => hx e.symm))]
theorem split_cut {c : UInt8} {s : Str} (h : c ∈ s) : splitC c s = (cutB c s).1 :: splitC c (cutB c s).2.1 := by
 have e := cut_app h
 unfold cutB
 rw [if_pos h]
 dsimp only
 conv => lhs; rw [e]
 exact split_at _ (take_no s)
def grpF : Nat → Str → Str → Str × Str
 | 0, d, r => (d, r)
 | k + 1, d, r => if r.head? = some 44 ∧ (runD r.tail).length = 3 then grpF k (d ++ runD r.tail) (runR r.tail) else (d, r)
def grpR (d r : Str) : Str × Str := grpF r.length d r
theorem grpF_more : ∀ (k j : Nat) (d r : Str), r.length ≤ k → k ≤ j → grpF j d r = grpF k d r
 | 0, j, d, r, h, _ => by
   have : r = [] := List.eq_nil_of_length_eq_zero (by omega)
   subst this
   cases j with
   | zero => rfl
   | succ j => simp [grpF]
 | k + 1, 0, d, r, _, h => by omega
 | k + 1, j + 1, d, r, h, hj => by
   unfold grpF
   split
   ·rename_i hc
    have h1 := run_len r.tail
    have h2 : r.tail.length = r.length - 1 := List.length_tail
    have h3 : r ≠ [] := fun e => by rw [e] at hc; cases hc.1
    have h4 := List.length_pos_iff.2 h3
    exact grpF_more k j _ _ (by omega) (by omega)
   ·rfl
theorem grpR_step (d r : Str) : grpR d r = if r.head? = some 44 ∧ (runD r.tail).length = 3 then grpR (d ++ runD r.tail) (runR r.tail) else (d, r) := by
 unfold grpR
 cases hl : r.length with
 | zero =>
   have : r = [] := List.eq_nil_of_length_eq_zero hl
   subst this
   simp [grpF]
 | succ k =>
   show (if r.head? = some 44 ∧ (runD r.tail).length = 3 then _ else _) = _
   split
   ·have h1 := run_len r.tail
    have h2 : r.tail.length = r.length - 1 := List.length_tail
    exact grpF_more _ _ _ _ (Nat.le_refl _) (by omega)
   ·rfl
def grp (s : Str) : Str × Str := if (runD s).length < 1 ∨ 3 < (runD s).length then (runD s, runR s) else grpR (runD s) (runR s)
def cutP (s : Str) : Str × Bool := if s.getLast? = some 37 then (s.dropLast, true) else (s, false)
theorem run_pct (s : Str) : runD (s ++ [37]) = runD s ∧ runR (s ++ [37]) = runR s ++ [37] := by
 unfold runD runR
 induction s with
 | nil => exact ⟨by decide, by decide⟩
 | cons x s ih =>
   rw [List.cons_append]
   by_cases hx : digC x = true
   ·rw [List.takeWhile_cons_of_pos hx, List.takeWhile_cons_of_pos hx, List.dropWhile_cons_of_pos hx, List.dropWhile_cons_of_pos hx, ih.1, ih.2]
    exact ⟨rfl, rfl⟩
   ·rw [List.takeWhile_cons_of_neg hx, List.takeWhile_cons_of_neg hx, List.dropWhile_cons_of_neg hx, List.dropWhile_cons_of_neg hx]
    exact ⟨rfl, rfl⟩
theorem grpF_pct : ∀ (k : Nat) (d r : Str), grpF k d (r ++ [37]) = ((grpF k d r).1, (grpF k d r).2 ++ [37])
 | 0, d, r => rfl
 | k + 1, d, r => by
   have e : ((r ++ [37]).head? = some 44 ∧ (runD (r ++ [37]).tail).length = 3) ↔ (r.head? = some 44 ∧ (runD r.tail).length = 3) := by
    cases r with
    | nil => simp
    | cons x r => simp [(run_pct r).1]
   unfold grpF
   by_cases hc : r.head? = some 44 ∧ (runD r.tail).length = 3
   ·rw [if_pos hc, if_pos (e.2 hc)]
    cases r with
    | nil => cases hc.1
    | cons x r =>
      show grpF k (d ++ runD (r ++ [37])) (runR (r ++ [37])) = _
      rw [(run_pct r).1, (run_pct r).2]
      exact grpF_pct k _ _
   ·rw [if_neg hc, if_neg (fun h => hc (e.1 h))]
theorem grp_pct (s : Str) : grp (s ++ [37]) = ((grp s).1, (grp s).2 ++ [37]) := by
 unfold grp
 rw [(run_pct s).1, (run_pct s).2]
 split
 ·rfl
 ·unfold grpR
  have e : ∀ (r : Str) (d : Str), grpF (r ++ [37]).length d (r ++ [37]) = ((grpF r.length d r).1, (grpF r.length d r).2 ++ [37]) := fun r d => by
   rw [grpF_pct, grpF_more r.length _ d r (Nat.le_refl _) (by simp)]
  exact e _ _
theorem grpF_suf : ∀ (k : Nat) (d r : Str), ∃ p, r = p ++ (grpF k d r).2
 | 0, d, r => ⟨[], rfl⟩
 | k + 1, d, r => by
   unfold grpF
   split
   ·rename_i hc
    obtain ⟨p, hp⟩ := grpF_suf k (d ++ runD r.tail) (runR r.tail)
    cases r with
    | nil => cases hc.1
    | cons x r =>
      refine ⟨x :: (runD r ++ p), ?_⟩
      show x :: r = x :: (runD r ++ p) ++ (grpF k (d ++ runD r) (runR r)).2
      have hp' : runR r = p ++ (grpF k (d ++ runD r) (runR r)).2 := hp
      rw [List.cons_append, List.append_assoc, ← hp', run_app]
   ·exact ⟨[], rfl⟩
theorem grp_suf (s : Str) : ∃ p, s = p ++ (grp s).2 := by
 unfold grp
 split
 ·exact ⟨_, (run_app s).symm⟩
 ·obtain ⟨p, hp⟩ := grpF_suf (runR s).length (runD s) (runR s)
  refine ⟨runD s ++ p, ?_⟩
  unfold grpR
  rw [List.append_assoc, ← hp, run_app]
theorem grp_cut (s : Str) : (grp s).1 = (grp (cutP s).1).1 ∧ cutP (grp s).2 = ((grp (cutP s).1).2, (cutP s).2) := by
 unfold cutP
 by_cases h : s.getLast? = some 37
 ·rw [if_pos h]
  obtain ⟨t, rfl⟩ : ∃ t, s = t ++ [37] := List.getLast?_eq_some_iff.1 h
  rw [List.dropLast_concat, grp_pct]
  dsimp only
  rw [if_pos (by simp), List.dropLast_concat]
  exact ⟨rfl, rfl⟩
 ·rw [if_neg h]
  refine ⟨rfl, ?_⟩
  dsimp only
  rw [if_neg]
  intro h2
  apply h
  obtain ⟨p, hp⟩ := grp_suf s
  obtain ⟨t, ht⟩ := List.getLast?_eq_some_iff.1 h2
  rw [hp, ht, ← List.append_assoc]
  simp
def dcC (c : UInt8) : Bool := digC c || c == 44
def dcD (s : Str) : Str := s.takeWhile dcC
def dcR (s : Str) : Str := s.dropWhile dcC
def okL : List Str → Bool
 | [] => true
 | g :: l => (!g.isEmpty && g.all digC) && decide (g.length = 3) && okL l
def okG : List Str → Bool
 | [] => false
 | g :: l => (!g.isEmpty && g.all digC) && (l.isEmpty || decide (g.length ≤ 3)) && okL l
theorem dc_run (s : Str) : dcD s = match runR s with
  | [] => runD s
  | x :: r => if x = 44 then runD s ++ 44 :: dcD r else runD s := by
 unfold dcD runR runD
 induction s with
 | nil => rfl
 | cons x s ih =>
   by_cases hx : digC x = true
   ·rw [List.takeWhile_cons_of_pos (by unfold dcC; rw [hx]; rfl), List.takeWhile_cons_of_pos hx, List.dropWhile_cons_of_pos hx, ih]
    split
    ·rfl
    ·split <;> rfl
   ·rw [List.takeWhile_cons_of_neg hx, List.dropWhile_cons_of_neg hx]
    dsimp only
    by_cases h4 : x = 44
    ·rw [if_pos h4, List.takeWhile_cons_of_pos (by unfold dcC; simp [h4]), h4]; rfl
    ·rw [if_neg h4, List.takeWhile_cons_of_neg (by unfold dcC; simp [h4, hx])]
theorem dcR_run (s : Str) : dcR s = match runR s with
  | [] => []
  | x :: r => if x = 44 then dcR r else x :: r := by
 unfold dcR runR
 induction s with
 | nil => rfl
 | cons x s ih =>
   by_cases hx : digC x = true
   ·rw [List.dropWhile_cons_of_pos (by unfold dcC; rw [hx]; rfl), List.dropWhile_cons_of_pos hx, ih]
   ·rw [List.dropWhile_cons_of_neg hx]
    dsimp only
    by_cases h4 : x = 44
    ·rw [if_pos h4, List.dropWhile_cons_of_pos (by unfold dcC; simp [h4])]
    ·rw [if_neg h4, List.dropWhile_cons_of_neg (by unfold dcC; simp [h4, hx])]
theorem comma_no (s : Str) : (44 : UInt8) ∉ runD s := fun h => by
 have := List.all_eq_true.1 (runD_all s) 44 h
 simp [digC] at this
theorem dig_all (s : Str) : (!(runD s).isEmpty && (runD s).all digC) = !(runD s).isEmpty := by rw [runD_all, Bool.and_true]
theorem grpR_ok : ∀ (n : Nat) (d r : Str), r.length ≤ n → r.head? = some 44 →
  (okL (splitC 44 (dcD r.tail)) = true → grpR d r = (d ++ (splitC 44 (dcD r.tail)).flatten, dcR r.tail)) ∧ (okL (splitC 44 (dcD r.tail)) = false → (grpR d r).2.head? = some 44) := by
 intro n
 induction n with
 | zero =>
   intro d r h hr
   have : r = [] := List.eq_nil_of_length_eq_zero (by omega)
   subst this; cases hr
 | succ n ih =>
   intro d r h hr
   cases r with
   | nil => cases hr
   | cons x s =>
     have hx : x = 44 := by simpa using hr
     subst hx
     show (okL (splitC 44 (dcD s)) = true → grpR d (44 :: s) = (d ++ (splitC 44 (dcD s)).flatten, dcR s)) ∧ (okL (splitC 44 (dcD s)) = false → (grpR d (44 :: s)).2.head? = some 44)
     have hl := run_len s
     have hg : grpR d (44 :: s) = if (runD s).length = 3 then grpR (d ++ runD s) (runR s) else (d, 44 :: s) := by
      rw [grpR_step]
      by_cases h3 : (runD s).length = 3
      ·have hc : (44 :: s).head? = some 44 ∧ (runD (44 :: s).tail).length = 3 := ⟨rfl, h3⟩
       rw [if_pos hc, if_pos h3]
       rfl
      ·have hc : ¬ ((44 :: s).head? = some 44 ∧ (runD (44 :: s).tail).length = 3) := fun h => h3 h.2
       rw [if_neg hc, if_neg h3]
     have stop : ∀ (d y : Str), y.head? ≠ some 44 → grpR d y = (d, y) := fun d y h => by
      have hc : ¬ (y.head? = some 44 ∧ (runD y.tail).length = 3) := fun h' => h h'.1
      rw [grpR_step, if_neg hc]
     have hs : (44 :: s).length = s.length + 1 := rfl
     rw [dc_run s, dcR_run s]
     by_cases h3 : (runD s).length = 3
     ·rw [if_pos h3] at hg
      rw [hg]
      have hne : (runD s).isEmpty = false := by
       cases hd : runD s with
       | nil => rw [hd] at h3; cases h3
       | cons _ _ => rfl
      have hd2 := dig_all s
      have hd3 : (!(runD s).isEmpty && (runD s).all digC) = true := by rw [hd2, hne]; rfl
      have one : okL [runD s] = true := by rw [okL, hd3, decide_eq_true h3]; rfl
      cases hR : runR s with
      | nil =>
        dsimp only
        rw [split_no (comma_no s)]
        refine ⟨fun _ => ?_, fun h => ?_⟩
        ·rw [stop _ _ (by simp)]
         simp
        ·rw [one] at h; cases h
      | cons y q =>
        by_cases hy : y = 44
        ·subst hy
         have hi := ih (d ++ runD s) (44 :: q) (by rw [← hR]; omega) rfl
         have hi : (okL (splitC 44 (dcD q)) = true → grpR (d ++ runD s) (44 :: q) = (d ++ runD s ++ (splitC 44 (dcD q)).flatten, dcR q)) ∧ (okL (splitC 44 (dcD q)) = false → (grpR (d ++ runD s) (44 :: q)).2.head? = some 44) := hi
         have e : okL (runD s :: splitC 44 (dcD q)) = okL (splitC 44 (dcD q)) := by
          rw [okL, hd3, decide_eq_true h3]; rfl
         dsimp only
         rw [if_pos rfl, if_pos rfl, split_at _ (comma_no s), e]
         refine ⟨fun hk => ?_, hi.2⟩
         rw [hi.1 hk, List.flatten_cons, List.append_assoc]
        ·dsimp only
         rw [if_neg hy, if_neg hy, split_no (comma_no s)]
         refine ⟨fun _ => ?_, fun h => ?_⟩
         ·rw [stop _ _ (by simpa using hy)]
          simp
         ·rw [one] at h; cases h
     ·rw [if_neg h3] at hg
      rw [hg]
      have hno : ∀ l, okL (runD s :: l) = false := fun l => by rw [okL]; simp [h3]
      cases hR : runR s with
      | nil =>
        dsimp only
        rw [split_no (comma_no s), hno]
        exact ⟨fun h => (by cases h), fun _ => rfl⟩
      | cons y q =>
        dsimp only
        by_cases hy : y = 44
        ·rw [if_pos hy, split_at _ (comma_no s), hno]
         exact ⟨fun h => (by cases h), fun _ => rfl⟩
        ·rw [if_neg hy, split_no (comma_no s), hno]
         exact ⟨fun h => (by cases h), fun _ => rfl⟩
theorem grp_ok (s : Str) : (okG (splitC 44 (dcD s)) = true → grp s = ((splitC 44 (dcD s)).flatten, dcR s) ∧ (splitC 44 (dcD s)).flatten ≠ []) ∧ (okG (splitC 44 (dcD s)) = false → (grp s).1 = [] ∨ (grp s).2.head? = some 44) := by
 unfold grp
 rw [dc_run s, dcR_run s]
 have hd2 := dig_all s
 have stop : ∀ (d y : Str), y.head? ≠ some 44 → grpR d y = (d, y) := fun d y h => by
  have hc : ¬ (y.head? = some 44 ∧ (runD y.tail).length = 3) := fun h' => h h'.1
  rw [grpR_step, if_neg hc]
 by_cases h0 : runD s = []
 ·have hno : ∀ l, okG (runD s :: l) = false := fun l => by rw [okG, h0]; simp
  have hl0 : (runD s).length < 1 ∨ 3 < (runD s).length := .inl (by rw [h0]; exact Nat.one_pos)
  rw [if_pos hl0]
  cases hR : runR s with
  | nil =>
    dsimp only
    rw [split_no (comma_no s), hno]
    exact ⟨fun h => (by cases h), fun _ => .inl h0⟩
  | cons y q =>
    dsimp only
    by_cases hy : y = 44
    ·rw [if_pos hy, split_at _ (comma_no s), hno]
     exact ⟨fun h => (by cases h), fun _ => .inl h0⟩
    ·rw [if_neg hy, split_no (comma_no s), hno]
     exact ⟨fun h => (by cases h), fun _ => .inl h0⟩
 ·have hne : (runD s).isEmpty = false := by simpa using h0
  have hlen := List.length_pos_iff.2 h0
  have hd3 : (!(runD s).isEmpty && (runD s).all digC) = true := by rw [hd2, hne]; rfl
  have one : okG [runD s] = true := by rw [okG, hd3]; rfl
  have fl : [runD s].flatten = runD s := by simp
  have whole : ∀ y : Str, y.head? ≠ some 44 → (if (runD s).length < 1 ∨ 3 < (runD s).length then (runD s, y) else grpR (runD s) y) = (runD s, y) := fun y hy => by
   split
   ·rfl
   ·exact stop _ _ hy
  cases hR : runR s with
  | nil =>
    dsimp only
    rw [split_no (comma_no s), fl]
    refine ⟨fun _ => ⟨whole [] (by simp), h0⟩, fun h => ?_⟩
    rw [one] at h; cases h
  | cons y q =>
    by_cases hy : y = 44
    ·subst hy
     dsimp only
     rw [if_pos rfl, if_pos rfl, split_at _ (comma_no s)]
     have hne2 : (splitC 44 (dcD q)).isEmpty = false := by simpa using split_ne 44 (dcD q)
     by_cases h3 : 3 < (runD s).length
     ·have e : okG (runD s :: splitC 44 (dcD q)) = false := by rw [okG, hd3, hne2, decide_eq_false (by omega)]; rfl
      have hc : (runD s).length < 1 ∨ 3 < (runD s).length := .inr h3
      rw [if_pos hc, e]
      exact ⟨fun h => (by cases h), fun _ => .inr rfl⟩
     ·have hc : ¬ ((runD s).length < 1 ∨ 3 < (runD s).length) := by omega
      have hi := grpR_ok (44 :: q).length (runD s) (44 :: q) (Nat.le_refl _) rfl
      have hi : (okL (splitC 44 (dcD q)) = true → grpR (runD s) (44 :: q) = (runD s ++ (splitC 44 (dcD q)).flatten, dcR q)) ∧ (okL (splitC 44 (dcD q)) = false → (grpR (runD s) (44 :: q)).2.head? = some 44) := hi
      have e : okG (runD s :: splitC 44 (dcD q)) = okL (splitC 44 (dcD q)) := by
       rw [okG, hd3, hne2, decide_eq_true (by omega : (runD s).length ≤ 3)]; rfl
      rw [if_neg hc, e]
      refine ⟨fun hk => ?_, fun hk => .inr (hi.2 hk)⟩
      rw [hi.1 hk, List.flatten_cons]
      exact ⟨rfl, fun h => h0 (List.append_eq_nil_iff.1 h).1⟩
    ·dsimp only
     rw [if_neg hy, if_neg hy, split_no (comma_no s), fl]
     refine ⟨fun _ => ⟨whole (y :: q) (by simpa using hy), h0⟩, fun h => ?_⟩
     rw [one] at h; cases h
end Go.Proofs.YtdkhkfdenlabaaaGreatDoor.VaP
namespace Go.Proofs.YtdkhkfdenlabaaaGreatDoor.VaP
open Go.Proofs.YtdkhkfdenlabaaaGreatDoor
abbrev Str := List UInt8
def bt (s : Str) (i : Nat) : Nat := (s.getD i 0).toNat
def dec (s : Str) : Nat × Nat := Lib.decodeGo (bstr s)
theorem bt_lt (s : Str) (i : Nat) : bt s i < 256 := (s.getD i 0).toNat_lt
theorem bt_get (s : Str) (i : Nat) : ((bstr s).get! i).toNat = bt s i := by
 unfold bt bstr ByteArray.get!
 rw [List.getD_eq_getElem?_getD]
 simp [Array.getElem!_eq_getD, Array.getD_eq_getD_getElem?]
 rfl
theorem dec_eq {s : Str} (h : s ≠ []) : dec s = Lib.decodeN s.length (bt s 0) (bt s 1) (bt s 2) (bt s 3) := by
 have h1 : ¬ (bstr s).size = 0 := fun e => h (List.eq_nil_of_length_eq_zero e)
 unfold dec Lib.decodeGo
 rw [if_neg h1, Lib.decode_at, bt_get, bt_get, bt_get, bt_get]
 rfl
def rune (s : Str) : Nat × Nat := if dec s = (65533, 1) then (0, 0) else dec s
theorem dec_len {s : Str} (h : s ≠ []) : 1 ≤ (dec s).2 ∧ (dec s).2 ≤ s.length := by
 have h0 : 0 < s.length := List.length_pos_iff.2 h
 rw [dec_eq h]
 unfold Lib.decodeN
 repeat' split
 all_goals (dsimp only; omega)
theorem dec_lt {s : Str} (h : s ≠ []) : (dec s).1 ≤ 1114111 := by
 have := bt_lt s 0
 rw [dec_eq h]
 unfold Lib.decodeN
 repeat' split
 all_goals (dsimp only; omega)
theorem rune_bad {s : Str} (h : dec s = (65533, 1)) : rune s = (0, 0) := if_pos h
theorem rune_ok {s : Str} {c n : Nat} (h : dec s = (c, n)) (hn : (c, n) ≠ (65533, 1)) : rune s = (c, n) := by
 unfold rune; rw [if_neg (by rw [h]; exact hn), h]
theorem rune_1 {s : Str} (h : s ≠ []) (h0 : bt s 0 < 128) : rune s = (bt s 0, 1) := by
 have := dec_eq h
 refine rune_ok (by rw [this]; unfold Lib.decodeN; rw [if_pos h0]) (fun e => ?_)
 have := congrArg Prod.fst e
 dsimp only at this; omega
theorem rune_0 {s : Str} (h : s ≠ []) (h0 : 128 ≤ bt s 0) (h1 : bt s 0 < 194 ∨ 245 ≤ bt s 0) : rune s = (0, 0) := by
 apply rune_bad
 rw [dec_eq h]
 unfold Lib.decodeN
 repeat' split
 all_goals first | rfl | (exfalso; omega)
theorem rune_2 {s : Str} (h : s ≠ []) (h0 : 194 ≤ bt s 0) (h1 : bt s 0 < 224) : rune s = if 1 < s.length ∧ bt s 1 / 64 = 2 then (bt s 0 % 32 * 64 + bt s 1 % 64, 2) else (0, 0) := by
 have hd := dec_eq h
 unfold Lib.decodeN at hd
 rw [if_neg (by omega)] at hd
 by_cases hc : 1 < s.length ∧ bt s 1 / 64 = 2
 ·rw [if_pos hc]
  rw [if_pos ⟨by omega, hc⟩, if_pos (by omega)] at hd
  exact rune_ok hd (fun e => by have := congrArg Prod.snd e; simp at this)
 ·rw [if_neg hc]
  rw [if_neg (fun h => hc h.2), if_neg (by omega), if_neg (by omega)] at hd
  exact rune_bad hd
theorem rune_3 {s : Str} (h : s ≠ []) (h0 : 224 ≤ bt s 0) (h1 : bt s 0 < 240) : rune s = if (1 < s.length ∧ bt s 1 / 64 = 2) ∧ (2 < s.length ∧ bt s 2 / 64 = 2) ∧ 2048 ≤ bt s 0 % 16 * 4096 + bt s 1 % 64 * 64 + bt s 2 % 64 ∧ (bt s 0 % 16 * 4096 + bt s 1 % 64 * 64 + bt s 2 % 64 < 55296 ∨ 57344 ≤ bt s 0 % 16 * 4096 + bt s 1 % 64 * 64 + bt s 2 % 64) then (bt s 0 % 16 * 4096 + bt s 1 % 64 * 64 + bt s 2 % 64, 3) else (0, 0) := by
 have hd := dec_eq h
 unfold Lib.decodeN at hd
 rw [if_neg (by omega), if_neg (by omega)] at hd
 by_cases hc : (1 < s.length ∧ bt s 1 / 64 = 2) ∧ (2 < s.length ∧ bt s 2 / 64 = 2)
 ·rw [if_pos ⟨by omega, hc⟩] at hd
  by_cases hr : 2048 ≤ bt s 0 % 16 * 4096 + bt s 1 % 64 * 64 + bt s 2 % 64 ∧ (bt s 0 % 16 * 4096 + bt s 1 % 64 * 64 + bt s 2 % 64 < 55296 ∨ 57344 ≤ bt s 0 % 16 * 4096 + bt s 1 % 64 * 64 + bt s 2 % 64)
  ·rw [if_pos ⟨hc.1, hc.2, hr⟩]
   rw [if_pos ⟨hr.1, hr.2.imp id (fun h => ⟨h, by omega⟩)⟩] at hd
   exact rune_ok hd (fun e => by have := congrArg Prod.snd e; simp at this)
  ·rw [if_neg (fun h => hr h.2.2)]
   rw [if_neg (fun h => hr ⟨h.1, h.2.imp id And.left⟩)] at hd
   exact rune_bad hd
 ·rw [if_neg (fun h => hc ⟨h.1, h.2.1⟩)]
  rw [if_neg (fun h => hc h.2), if_neg (by omega)] at hd
  exact rune_bad hd
theorem rune_4 {s : Str} (h : s ≠ []) (h0 : 240 ≤ bt s 0) (h1 : bt s 0 < 245) : rune s = if (1 < s.length ∧ bt s 1 / 64 = 2) ∧ (2 < s.length ∧ bt s 2 / 64 = 2) ∧ (3 < s.length ∧ bt s 3 / 64 = 2) ∧ 65536 ≤ bt s 0 % 8 * 262144 + bt s 1 % 64 * 4096 + bt s 2 % 64 * 64 + bt s 3 % 64 ∧ bt s 0 % 8 * 262144 + bt s 1 % 64 * 4096 + bt s 2 % 64 * 64 + bt s 3 % 64 ≤ 1114111 then (bt s 0 % 8 * 262144 + bt s 1 % 64 * 4096 + bt s 2 % 64 * 64 + bt s 3 % 64, 4) else (0, 0) := by
 have hd := dec_eq h
 unfold Lib.decodeN at hd
 rw [if_neg (by omega), if_neg (by omega), if_neg (by omega)] at hd
 by_cases hc : (1 < s.length ∧ bt s 1 / 64 = 2) ∧ (2 < s.length ∧ bt s 2 / 64 = 2) ∧ (3 < s.length ∧ bt s 3 / 64 = 2)
 ·rw [if_pos ⟨by omega, hc⟩] at hd
  by_cases hr : 65536 ≤ bt s 0 % 8 * 262144 + bt s 1 % 64 * 4096 + bt s 2 % 64 * 64 + bt s 3 % 64 ∧ bt s 0 % 8 * 262144 + bt s 1 % 64 * 4096 + bt s 2 % 64 * 64 + bt s 3 % 64 ≤ 1114111
  ·rw [if_pos ⟨hc.1, hc.2.1, hc.2.2, hr⟩]
   rw [if_pos ⟨hr.1, .inr ⟨by omega, hr.2⟩⟩] at hd
   exact rune_ok hd (fun e => by have := congrArg Prod.snd e; simp at this)
  ·rw [if_neg (fun h => hr h.2.2.2)]
   rw [if_neg (fun h => hr ⟨h.1, by omega⟩)] at hd
   exact rune_bad hd
 ·rw [if_neg (fun h => hc ⟨h.1, h.2.1, h.2.2.1⟩)]
  rw [if_neg (fun h => hc h.2)] at hd
  exact rune_bad hd
def charP (c : Nat) : Bool := decide (c = 9) || decide (c = 10) || (decide (32 ≤ c) && decide (c < 127)) || (decide (160 ≤ c) && decide (c < 55296)) || (decide (57343 < c) && decide (c ≤ 1114111))
def txtF : Nat → Str → Bool
 | 0, _ => true
 | n + 1, s => if s = [] then true else if dec s = (65533, 1) ∨ charP (dec s).1 = false then false else txtF n (s.drop (dec s).2)
def txtP (s : Str) : Bool := txtF s.length s
theorem txtF_more : ∀ (n m : Nat) (s : Str), s.length ≤ n → n ≤ m → txtF m s = txtF n s
 | 0, m, s, h, _ => by
   have : s = [] := List.eq_nil_of_length_eq_zero (by omega)
   subst this
   cases m with
   | zero => rfl
   | succ m => simp [txtF]
 | n + 1, 0, s, _, h => by omega
 | n + 1, m + 1, s, h, hm => by
   unfold txtF
   by_cases hs : s = []
   ·rw [if_pos hs, if_pos hs]
   ·rw [if_neg hs, if_neg hs]
    have := dec_len hs
    rw [txtF_more n m (s.drop (dec s).2) (by rw [List.length_drop]; omega) (by omega)]
theorem txtP_step {s : Str} (hs : s ≠ []) : txtP s = if dec s = (65533, 1) ∨ charP (dec s).1 = false then false else txtP (s.drop (dec s).2) := by
 have h0 : 0 < s.length := List.length_pos_iff.2 hs
 have hd := dec_len hs
 unfold txtP
 obtain ⟨n, hn⟩ : ∃ n, s.length = n + 1 := ⟨s.length - 1, by omega⟩
 rw [hn]
 show (if s = [] then true else _) = _
 rw [if_neg hs, txtF_more (s.drop (dec s).2).length n _ (Nat.le_refl _) (by rw [List.length_drop]; omega)]
def txtE (s : Str) : Int := if 32767 < s.length then 3 else if txtP s then 0 else 23
def lowC (c : UInt8) : UInt8 := if 65 ≤ c ∧ c ≤ 90 then c + 32 else c
def low (s : Str) : Str := s.map lowC
structure VT where
 kind : Int
 num : ExP.Fr
 text : Str
 on : Bool
 code : Int
 rows : Int
 cols : Int
 items : List VT
def vErr0 (t : VT) : Int :=
 if t.kind < 0 ∨ 5 < t.kind then 8
 else if (t.kind ≠ 1 ∧ t.num ≠ ([], [])) ∨ (t.kind ≠ 2 ∧ t.text ≠ []) ∨ (t.kind ≠ 3 ∧ t.on = true) ∨ (t.kind ≠ 4 ∧ t.code ≠ 0) ∨ (t.kind ≠ 5 ∧ (t.rows ≠ 0 ∨ t.cols ≠ 0 ∨ t.items ≠ [])) then 4
 else if t.kind = 1 then ExP.readE t.num
 else if t.kind = 2 then txtE t.text
 else if t.kind = 4 ∧ (t.code < 1 ∨ 8 < t.code) then 2
 else 0
def itE (t : VT) : Int := if t.kind = 5 then 8 else vErr0 t
def itsE : List VT → Int
 | [] => 0
 | x :: l => if itE x ≠ 0 then itE x else itsE l
def vErr (t : VT) : Int :=
 if vErr0 t ≠ 0 ∨ t.kind ≠ 5 then vErr0 t
 else if t.rows < 1 ∨ 100000 < t.rows ∨ t.cols < 1 ∨ 100000 < t.cols then 2
 else if 100000 < t.rows * t.cols then 3
 else if (t.items.length : Int) ≠ t.rows * t.cols then 4
 else itsE t.items
theorem itsE_all {l : List VT} : itsE l = 0 ↔ ∀ x ∈ l, itE x = 0 := by
 induction l with
 | nil => simp [itsE]
 | cons x l ih =>
   unfold itsE
   by_cases h : itE x = 0
   ·simp [h, ih]
   ·simp [h]
def leap (y : Nat) : Bool := decide (y % 4 = 0) && (decide (y % 100 ≠ 0) || decide (y % 400 = 0))
def mdays (y m : Nat) : Nat := if m = 2 then (if leap y then 29 else 28) else if m = 4 ∨ m = 6 ∨ m = 9 ∨ m = 11 then 30 else 31
def ydays (y : Nat) : Nat := 365 + (if leap y then 1 else 0)
def bef (y : Nat) : Nat := 365 * (y - 1900) + ((y - 1) / 4 + (y - 1) / 400 - (y - 1) / 100 - 460)
theorem bef_int {y : Nat} (h : 1900 ≤ y) : (bef y : Int) = 365 * ((y : Int) - 1900) + ((y : Int) - 1) / 4 - ((y : Int) - 1) / 100 + ((y : Int) - 1) / 400 - 460 := by
 unfold bef
 have h1 : 460 ≤ (y - 1) / 4 + (y - 1) / 400 - (y - 1) / 100 := by omega
 omega
theorem bef_start : bef 1900 = 0 := rfl
theorem bef_step {y : Nat} (h : 1900 ≤ y) : bef (y + 1) = bef y + ydays y := by
 have e1 : y + 1 - 1 = y := rfl
 unfold bef ydays leap
 rw [e1]
 have h1 : 460 ≤ (y - 1) / 4 + (y - 1) / 400 - (y - 1) / 100 := by omega
 by_cases h4 : y % 4 = 0
 ·by_cases h100 : y % 100 = 0
  ·by_cases h400 : y % 400 = 0
   ·simp [h4, h100, h400]; omega
   ·simp [h4, h100, h400]; omega
  ·simp [h4, h100]; omega
 ·simp [h4]; omega
theorem ydays_le (y : Nat) : 365 ≤ ydays y ∧ ydays y ≤ 366 := by unfold ydays; split <;> omega
theorem bef_end : bef 10000 = 2958464 := by decide
theorem bef_low {y : Nat} (h : y < 1900) : bef y = 0 := by unfold bef; omega
attribute [local irreducible] bef
theorem bef_mono {y : Nat} (h : 1900 ≤ y) (k : Nat) : bef y + 365 * k ≤ bef (y + k) ∧ bef (y + k) ≤ bef y + 366 * k := by
 induction k with
 | zero => simp
 | succ k ih =>
   have h1 := bef_step (y := y + k) (by omega)
   have h2 := ydays_le (y + k)
   have h3 : bef (y + (k + 1)) = bef (y + k) + ydays (y + k) := h1
   rw [h3]
   clear h1 h3
   generalize ydays (y + k) = A at *
   generalize bef (y + k) = B at *
   generalize bef y = D at *
   have e1 : 365 * (k + 1) = 365 * k + 365 := rfl
   have e2 : 366 * (k + 1) = 366 * k + 366 := rfl
   rw [e1, e2]
   clear e1 e2
   generalize 365 * k = p at *
   generalize 366 * k = q at *
   omega
theorem bef_lt {a b : Nat} (ha : 1900 ≤ a) (h : bef a < bef b) : a < b := by
 rcases Nat.lt_or_ge a b with h1 | h1
 ·exact h1
 ·exfalso
  rcases Nat.lt_or_ge b 1900 with h2 | h2
  ·have : bef b = 0 := bef_low h2
   omega
  ·have := (bef_mono h2 (a - b)).1
   rw [show b + (a - b) = a by omega] at this
   omega
theorem year_one {a b n : Nat} (ha : 1900 ≤ a) (hb : 1900 ≤ b) (a1 : bef a < n) (a2 : n ≤ bef (a + 1)) (b1 : bef b < n) (b2 : n ≤ bef (b + 1)) : a = b := by
 have h1 := bef_lt ha (show bef a < bef (b + 1) by omega)
 have h2 := bef_lt hb (show bef b < bef (a + 1) by omega)
 omega
def msum (y : Nat) : Nat → Nat
 | 0 => 0
 | m + 1 => msum y m + mdays y (m + 1)
theorem msum_year (y : Nat) : msum y 12 = ydays y := by
 unfold ydays
 by_cases h : leap y = true
 ·simp [msum, mdays, h]
 ·simp [msum, mdays, h]
theorem mdays_le (y m : Nat) : 28 ≤ mdays y m ∧ mdays y m ≤ 31 := by
 unfold mdays
 repeat' split
 all_goals omega
theorem msum_le (y : Nat) : ∀ m, msum y m ≤ 31 * m
 | 0 => Nat.le_refl _
 | m + 1 => by
   have := msum_le y m
   have := mdays_le y (m + 1)
   unfold msum; omega
theorem msum_mono (y : Nat) (m k : Nat) : msum y m ≤ msum y (m + k) := by
 induction k with
 | zero => exact Nat.le_refl _
 | succ k ih =>
   show msum y m ≤ msum y (m + k) + mdays y (m + k + 1)
   omega
theorem month_one {y a b d : Nat} (a1 : msum y a < d) (a2 : d ≤ msum y (a + 1)) (b1 : msum y b < d) (b2 : d ≤ msum y (b + 1)) : a = b := by
 rcases Nat.lt_trichotomy a b with h | h | h
 ·exfalso
  have := msum_mono y (a + 1) (b - (a + 1))
  rw [show a + 1 + (b - (a + 1)) = b by omega] at this
  omega
 ·exact h
 ·exfalso
  have := msum_mono y (b + 1) (a - (b + 1))
  rw [show b + 1 + (a - (b + 1)) = a by omega] at this
  omega
def dayP (y m d : Int) : Prop := 1900 ≤ y ∧ y ≤ 9999 ∧ 1 ≤ m ∧ m ≤ 12 ∧ 1 ≤ d ∧ d ≤ (mdays y.toNat m.toNat : Nat)
instance (y m d : Int) : Decidable (dayP y m d) := by unfold dayP; infer_instance
def dayV (y m d : Int) : Int := if dayP y m d then ((bef y.toNat + msum y.toNat (m.toNat - 1) : Nat) : Int) + d else 0
theorem dayV_pos (y m d : Int) : 0 < dayV y m d ↔ dayP y m d := by
 unfold dayV
 split
 ·rename_i h
  have := h.2.2.2.2.1
  constructor
  ·intro _; exact h
  ·intro _; omega
 ·rename_i h
  constructor
  ·intro h0; omega
  ·intro h1; exact absurd h1 h
theorem dayV_le (y m d : Int) : 0 ≤ dayV y m d ∧ dayV y m d ≤ 2958464 := by
 unfold dayV
 split
 ·rename_i h
  obtain ⟨h1, h2, h3, h4, h5, h6⟩ := h
  obtain ⟨y, rfl⟩ : ∃ k : Nat, y = (k : Int) := ⟨y.toNat, by omega⟩
  obtain ⟨m, rfl⟩ : ∃ k : Nat, m = ((k + 1 : Nat) : Int) := ⟨m.toNat - 1, by omega⟩
  rw [Int.toNat_natCast, Int.toNat_natCast] at *
  have e1 := bef_step (y := y) (by omega)
  have e2 := msum_mono y (m + 1) (12 - (m + 1))
  rw [show m + 1 + (12 - (m + 1)) = 12 by omega, msum_year] at e2
  have e3 : msum y (m + 1) = msum y m + mdays y (m + 1) := rfl
  have e4 := (bef_mono (y := y + 1) (by omega) (10000 - (y + 1))).1
  rw [show y + 1 + (10000 - (y + 1)) = 10000 by omega, bef_end] at e4
  rw [show m + 1 - 1 = m from rfl]
  omega
 ·omega
structure DateI (n y m d : Nat) : Prop where
 y0 : 1900 ≤ y
 m0 : m < 12
 y1 : n = bef y + msum y m + d
 d0 : 0 < d
 d1 : d ≤ mdays y (m + 1)
theorem DateI.one {n y m d y' m' d' : Nat} (h : DateI n y m d) (h' : DateI n y' m' d') : y = y' ∧ m = m' ∧ d = d' := by
 have f : ∀ {n y m d : Nat}, DateI n y m d → bef y < n ∧ n ≤ bef (y + 1) := fun {n y m d} h => by
  have e1 := bef_step h.y0
  have e2 := msum_mono y (m + 1) (12 - (m + 1))
  have := h.m0
  rw [show m + 1 + (12 - (m + 1)) = 12 by omega, msum_year] at e2
  have e3 : msum y (m + 1) = msum y m + mdays y (m + 1) := rfl
  have := h.y1; have := h.d0; have := h.d1
  omega
 have hy := year_one h.y0 h'.y0 (f h).1 (f h).2 (f h').1 (f h').2
 subst hy
 have hm := month_one (y := y) (d := n - bef y) (a := m) (b := m') (by have := h.y1; have := h.d0; omega)
  (by have := h.y1; have := h.d1; have e3 : msum y (m + 1) = msum y m + mdays y (m + 1) := rfl; omega)
  (by have := h'.y1; have := h'.d0; omega)
  (by have := h'.y1; have := h'.d1; have e3 : msum y (m' + 1) = msum y m' + mdays y (m' + 1) := rfl; omega)
 subst hm
 exact ⟨rfl, rfl, by have := h.y1; have := h'.y1; omega⟩
end Go.Proofs.YtdkhkfdenlabaaaGreatDoor.VaP
namespace Go.Proofs.YtdkhkfdenlabaaaGreatDoor.VaP
open Go.Proofs.YtdkhkfdenlabaaaGreatDoor Go.Proofs.YtdkhkfdenlabaaaGreatDoor.ExP
def sgn (s : Str) : Str × Str := if s.head? = some 43 then ([], s.tail) else if s.head? = some 45 then ([45], s.tail) else ([], s)
def numT (s : Str) : Str := (sgn s).1 ++ ((grp (cutP (sgn s).2).1).1 ++ (grp (cutP (sgn s).2).1).2)
def numG (t : Str) (pc : Bool) : Option Num :=
 if parE t ≠ 0 ∨ writeE (decN t) ≠ 0 then none
 else if pc = true then (if writeE (scaleN (decN t) (-2)) = 0 then some (scaleN (decN t) (-2)) else none) else some (decN t)
def numV (s : Str) : Option Num :=
 if (grp (cutP (sgn s).2).1).1 = [] then none else numG (numT s) (cutP (sgn s).2).2
def numL (s : Str) : List Str := splitC 44 (dcD (cutP (sgn s).2).1)
def numR (s : Str) : Option Num :=
 if okG (numL s) = true then numG ((sgn s).1 ++ ((numL s).flatten ++ dcR (cutP (sgn s).2).1)) (cutP (sgn s).2).2 else none
theorem grpF_dig : ∀ (k : Nat) (d r : Str), d.all digC = true → (grpF k d r).1.all digC = true
 | 0, d, r, h => h
 | k + 1, d, r, h => by
   unfold grpF
   split
   ·exact grpF_dig k _ _ (by rw [List.all_append, h, runD_all]; rfl)
   ·exact h
theorem grp_dig (s : Str) : (grp s).1.all digC = true := by
 unfold grp
 split
 ·exact runD_all s
 ·exact grpF_dig _ _ _ (runD_all s)
theorem run_sep {d r : Str} (h : d.all digC = true) (hr : ∀ c q, r = c :: q → digC c = false) : runD (d ++ r) = d ∧ runR (d ++ r) = r := by
 unfold runD runR
 induction d with
 | nil =>
   cases r with
   | nil => exact ⟨rfl, rfl⟩
   | cons c q =>
     have := hr c q rfl
     rw [List.nil_append, List.takeWhile_cons_of_neg (by simp [this]), List.dropWhile_cons_of_neg (by simp [this])]
     exact ⟨rfl, rfl⟩
 | cons c d ih =>
   simp only [List.all_cons, Bool.and_eq_true] at h
   rw [List.cons_append, List.takeWhile_cons_of_pos h.1, List.dropWhile_cons_of_pos h.1, (ih h.2).1, (ih h.2).2]
   exact ⟨rfl, rfl⟩
theorem head_dig {d r : Str} (hd : d ≠ []) (h : d.all digC = true) : (d ++ r).head? ≠ some 45 := by
 cases d with
 | nil => exact absurd rfl hd
 | cons c d =>
   simp only [List.all_cons, Bool.and_eq_true] at h
   intro e
   have : c = 45 := by simpa using e
   subst this
   simp [digC] at h
theorem cut_sgn {sg d r : Str} (hs : sg = [] ∨ sg = [45]) (hd : d ≠ []) (h : d.all digC = true) : (cutM (sg ++ (d ++ r))).1 = d ++ r ∧ (cutM (sg ++ (d ++ r))).2 = decide (sg = [45]) := by
 rcases hs with rfl | rfl
 ·unfold cutM
  rw [List.nil_append, if_neg (head_dig hd h)]
  exact ⟨rfl, rfl⟩
 ·exact ⟨rfl, rfl⟩
theorem par_comma {sg d r : Str} (hs : sg = [] ∨ sg = [45]) (hd : d ≠ []) (h : d.all digC = true) (hr : r.head? = some 44) : parE (sg ++ (d ++ r)) ≠ 0 := by
 obtain ⟨q, rfl⟩ : ∃ q, r = 44 :: q := by
  cases r with
  | nil => cases hr
  | cons c q => exact ⟨q, by have : c = 44 := by simpa using hr
                             rw [this]⟩
 have h1 := (cut_sgn (r := 44 :: q) hs hd h).1
 have h2 := run_sep (d := d) (r := 44 :: q) h (fun c r e => by cases e; rfl)
 unfold parE
 split
 ·omega
 ·have : parX (runR (cutM (sg ++ (d ++ 44 :: q))).1) = true ∨ decW (sg ++ (d ++ 44 :: q)) = [] ∨ expB (decT (sg ++ (d ++ 44 :: q))) = false := by
   refine .inr (.inr ?_)
   unfold decT
   rw [h1, h2.2]
   rfl
  rw [if_pos this]
  omega
theorem sgn_two (s : Str) : (sgn s).1 = [] ∨ (sgn s).1 = [45] := by
 unfold sgn
 split
 ·exact .inl rfl
 ·split
  ·exact .inr rfl
  ·exact .inl rfl
theorem numV_eq (s : Str) : numV s = numR s := by
 have hg := grp_ok (cutP (sgn s).2).1
 have hd := grp_dig (cutP (sgn s).2).1
 unfold numV numR numT numL
 cases hk : okG (splitC 44 (dcD (cutP (sgn s).2).1)) with
 | true =>
   obtain ⟨h1, h2⟩ := hg.1 hk
   rw [h1, if_neg h2, if_pos rfl]
 | false =>
   rw [if_neg Bool.false_ne_true]
   by_cases h0 : (grp (cutP (sgn s).2).1).1 = []
   ·rw [if_pos h0]
   ·rw [if_neg h0]
    have h1 := (hg.2 hk).resolve_left h0
    unfold numG
    rw [if_pos (.inl (par_comma (sgn_two s) h0 hd h1))]
theorem numV_write {s : Str} {x : Num} (h : numV s = some x) : writeE x = 0 := by
 unfold numV at h
 split at h
 ·cases h
 ·unfold numG at h
  split at h
  ·cases h
  ·rename_i h1
   simp only [not_or, Decidable.not_not] at h1
   split at h
   ·split at h
    ·rename_i h2; cases h; exact h2
    ·cases h
   ·cases h; exact h1.2
def wh (s : Str) : Bool := !s.isEmpty && s.all digC && decide (s.length ≤ 100)
theorem wh_no {s : Str} {c : UInt8} (hc : digC c = false) (h : c ∈ s) : wh s = false := by
 cases hw : wh s with
 | false => rfl
 | true =>
   unfold wh at hw
   simp only [Bool.and_eq_true] at hw
   have := List.all_eq_true.1 hw.1.2 c h
   rw [hc] at this; cases this
def mixG (m : Bool) (a b c : Str) : Option Num := if wh a = true ∧ wh b = true ∧ wh c = true ∧ valS c ≠ 0 then some ⟨m, valS a * valS c + valS b, valS c⟩ else none
def mixV (s : Str) : Option Num :=
 if (cutB 32 (cutM s).1).2.2 = true ∧ (cutB 47 (cutB 32 (cutM s).1).2.1).2.2 = true then mixG (cutM s).2 (cutB 32 (cutM s).1).1 (cutB 47 (cutB 32 (cutM s).1).2.1).1 (cutB 47 (cutB 32 (cutM s).1).2.1).2.1 else none
def mixR (s : Str) : Option Num := match splitC 32 (cutM s).1 with
 | [w, r] => (match splitC 47 r with
   | [a, b] => mixG (cutM s).2 w a b
   | _ => none)
 | _ => none
theorem mixG_no {m : Bool} {a b c : Str} (h : wh a = false ∨ wh b = false ∨ wh c = false) : mixG m a b c = none := by
 unfold mixG
 rw [if_neg]
 rintro ⟨h1, h2, h3, -⟩
 rw [h1, h2, h3] at h
 simp at h
theorem cut_mem {c x : UInt8} {s : Str} (h : x ∈ s) (hc : x ≠ c) : x ∈ (cutB c s).1 ∨ x ∈ (cutB c s).2.1 := by
 unfold cutB
 split
 ·rename_i h1
  rw [cut_app h1] at h
  simp only [List.mem_append, List.mem_cons] at h
  rcases h with h | h | h
  ·exact .inl h
  ·exact absurd h hc
  ·exact .inr h
 ·exact .inl h
theorem cut_found (c : UInt8) (s : Str) : (cutB c s).2.2 = decide (c ∈ s) := by
 unfold cutB
 split
 ·rename_i h; simp [h]
 ·rename_i h; simp [h]
theorem mixV_eq (s : Str) : mixV s = mixR s := by
 unfold mixV mixR
 generalize (cutM s).2 = m
 generalize (cutM s).1 = t
 rw [cut_found, cut_found]
 by_cases h1 : (32 : UInt8) ∈ t
 ·rw [split_cut h1]
  generalize (cutB 32 t).1 = w
  generalize (cutB 32 t).2.1 = r
  by_cases h2 : (32 : UInt8) ∈ r
  ·rw [split_cut h2]
   have e : (match w :: (cutB 32 r).1 :: splitC 32 (cutB 32 r).2.1 with
     | [w, r] => (match splitC 47 r with
       | [a, b] => mixG m w a b
       | _ => none)
     | _ => none) = none := by
    cases h : splitC 32 (cutB 32 r).2.1 with
    | nil => exact absurd h (split_ne _ _)
    | cons _ _ => rfl
   rw [e]
   split
   ·have hn := cut_mem (c := 47) h2 (by decide)
    exact mixG_no (hn.elim (fun h => .inr (.inl (wh_no rfl h))) (fun h => .inr (.inr (wh_no rfl h))))
   ·rfl
  ·rw [split_no h2]
   dsimp only
   by_cases h3 : (47 : UInt8) ∈ r
   ·rw [split_cut h3, if_pos ⟨decide_eq_true h1, decide_eq_true h3⟩]
    generalize (cutB 47 r).1 = a
    generalize (cutB 47 r).2.1 = b
    by_cases h4 : (47 : UInt8) ∈ b
    ·rw [split_cut h4, mixG_no (.inr (.inr (wh_no rfl h4)))]
     cases h : splitC 47 (cutB 47 b).2.1 with
     | nil => exact absurd h (split_ne _ _)
     | cons _ _ => rfl
    ·rw [split_no h4]
   ·rw [split_no h3, if_neg (fun h => h3 (of_decide_eq_true h.2))]
 ·rw [split_no h1, if_neg (fun h => h1 (of_decide_eq_true h.1))]
def cntP (s : Str) (n : Nat) : Bool := s.all digC && decide (s.length = n)
def dateV (s : Str) : Int := match splitC 45 s with
 | [a, b, c] => if cntP a 4 = true ∧ cntP b 2 = true ∧ cntP c 2 = true then dayV (valS a : Nat) (valS b : Nat) (valS c : Nat) else 0
 | _ => 0
def hmP (a b : Str) : Bool := !a.isEmpty && a.all digC && decide (a.length ≤ 2) && cntP b 2 && decide (valS a ≤ 23) && decide (valS b ≤ 59)
def secP (a p : Str) (point : Bool) : Bool := cntP a 2 && decide (valS a ≤ 59) && (!point || (!p.isEmpty && p.all digC && decide (p.length ≤ 9)))
def hmN (a b : Str) : Nat := 3600 * valS a + 60 * valS b
def clkG (a b c p : Str) (point : Bool) : Option Num := if hmP a b = true ∧ secP c p point = true then some ⟨false, hmN a b * 10 ^ p.length + valS (c ++ p), 10 ^ p.length * 86400⟩ else none
def clkV (s : Str) : Option Num := match splitC 58 s with
 | [a, b] => if hmP a b = true then some ⟨false, hmN a b, 86400⟩ else none
 | [a, b, c] => clkG a b (cutB 46 c).1 (cutB 46 c).2.1 (cutB 46 c).2.2
 | _ => none
def clkR (s : Str) : Option Num := match splitC 58 s with
 | [a, b] => if hmP a b = true then some ⟨false, hmN a b, 86400⟩ else none
 | [a, b, c] => (match splitC 46 c with
   | [x] => clkG a b x [] false
   | [x, p] => clkG a b x p true
   | _ => none)
 | _ => none
theorem clkV_eq (s : Str) : clkV s = clkR s := by
 unfold clkV clkR
 split
 ·rfl
 ·rename_i a b c _
  by_cases h : (46 : UInt8) ∈ c
  ·rw [split_cut h]
   have hf : (cutB 46 c).2.2 = true := by rw [cut_found]; exact decide_eq_true h
   rw [hf]
   generalize (cutB 46 c).1 = x
   generalize (cutB 46 c).2.1 = p
   by_cases h2 : (46 : UInt8) ∈ p
   ·rw [split_cut h2]
    have hp : secP x p true = false := by
     unfold secP
     have : p.all digC = false := by
      rw [List.all_eq_false]; exact ⟨46, h2, by decide⟩
     rw [this]; simp
    unfold clkG
    rw [hp, if_neg (fun h => by cases h.2)]
    cases h : splitC 46 (cutB 46 p).2.1 with
    | nil => exact absurd h (split_ne _ _)
    | cons _ _ => rfl
   ·rw [split_no h2]
  ·rw [split_no h]
   have hc : cutB 46 c = (c, [], false) := by unfold cutB; rw [if_neg h]
   rw [hc]
 ·rfl
def momV (s : Str) : Option Num := match clkV (cutB 32 s).2.1 with
 | some x => if (cutB 32 s).2.2 = true ∧ 0 < dateV (cutB 32 s).1 then some (sumN ⟨false, (dateV (cutB 32 s).1).toNat, 1⟩ x) else none
 | none => none
def emptyV : VT := ⟨0, ([], []), [], false, 0, 0, 0, []⟩
def faultV (c : Int) : VT := ⟨4, ([], []), [], false, c, 0, 0, []⟩
def rawT (s : Str) : VT := ⟨2, ([], []), s, false, 0, 0, 0, []⟩
def boolV (b : Bool) : VT := ⟨3, ([], []), [], b, 0, 0, 0, []⟩
def numF (f : Fr) : VT := ⟨1, f, [], false, 0, 0, 0, []⟩
def textV (s : Str) : VT := if txtE s = 0 then rawT s else faultV 2
def ftext : Nat → Str
 | 1 => [35, 68, 73, 86, 47, 48, 33]
 | 2 => [35, 86, 65, 76, 85, 69, 33]
 | 3 => [35, 82, 69, 70, 33]
 | 4 => [35, 78, 65, 77, 69, 63]
 | 5 => [35, 78, 85, 77, 33]
 | 6 => [35, 78, 47, 65]
 | 7 => [35, 83, 80, 73, 76, 76, 33]
 | 8 => [35, 67, 89, 67, 76, 69, 33]
 | _ => []
def fcode (s : Str) : Nat := if s = ftext 1 then 1 else if s = ftext 2 then 2 else if s = ftext 3 then 3 else if s = ftext 4 then 4 else if s = ftext 5 then 5 else if s = ftext 6 then 6 else if s = ftext 7 then 7 else if s = ftext 8 then 8 else 0
def readV (s : Str) : Option Num := match numV s with
 | some x => some x
 | none => match mixV s with
   | some x => some x
   | none => if 0 < dateV s then some ⟨false, (dateV s).toNat, 1⟩ else match clkV s with
     | some x => some x
     | none => momV s
def enterV (s : Str) : VT :=
 if s = [] then emptyV
 else if txtE s ≠ 0 then faultV 2
 else if s.head? = some 39 then textV s.tail
 else if low s = [116, 114, 117, 101] ∨ low s = [102, 97, 108, 115, 101] then boolV (decide (low s = [116, 114, 117, 101]))
 else if fcode s ≠ 0 then faultV (fcode s : Nat)
 else match readV s with
  | some x => numF (writeF x)
  | none => rawT s
end Go.Proofs.YtdkhkfdenlabaaaGreatDoor.VaP
namespace Go.Proofs.YtdkhkfdenlabaaaGreatDoor
open Go.RowKit
namespace Sym
theorem x_eqNil {C : Ctx} {G : Blobs} {x y : Operand} {t u e : TypeId} {a : Option Addr} {n c : Nat} (ht : C.P.underlying t = some (.slice e)) : ExtN C G (.binOp .eql t x y u) [.any (.slice a n c), .any (.slice none 0 0)] (.bool a.isNone) := by
 unfold ExtN
 intro ρ β w dst ty pos after g _ _ h
 have h' : ρ x = .slice a n c ∧ ρ y = .slice none 0 0 := by simpa [opsX, SV.dens, SV.den] using h
 have h2 := run_equal_slice_nil (P := C.P) w t e a n c ht
 simp [execOp, eqGuard, binOp, h'.1, h'.2, h2, SV.den]
theorem x_eqBB {C : Ctx} {G : Blobs} {x y : Operand} {t u : TypeId} {va vb : SV} (a b : Bool) (c : Bool) (ha : ∀ β, va.den β = .bool a) (hb : ∀ β, vb.den β = .bool b) (hc : (a == b) = c) (ht : C.P.underlying t = some .bool) : ExtN C G (.binOp .eql t x y u) [va, vb] (.lit c) := by
 unfold ExtN
 intro ρ β w dst ty pos after g _ _ h
 have h' : ρ x = .bool a ∧ ρ y = .bool b := by simpa [opsX, SV.dens, SV.den, ha, hb] using h
 have h2 := run_eql_bool (P := C.P) (w := w) t a b ht
 simp [execOp, eqGuard, h'.1, h'.2, h2, SV.den, hc]
theorem x_neBB {C : Ctx} {G : Blobs} {x y : Operand} {t u : TypeId} {va vb : SV} (a b : Bool) (ha : ∀ β, va.den β = .bool a) (hb : ∀ β, vb.den β = .bool b) (ht : C.P.underlying t = some .bool) : ExtN C G (.binOp .neq t x y u) [va, vb] (.bool (a != b)) := by
 unfold ExtN
 intro ρ β w dst ty pos after g _ _ h
 have h' : ρ x = .bool a ∧ ρ y = .bool b := by simpa [opsX, SV.dens, SV.den, ha, hb] using h
 have h2 := run_neq_bool (P := C.P) (w := w) t a b ht
 simp [execOp, eqGuard, h'.1, h'.2, h2, SV.den]
 cases a <;> cases b <;> rfl
theorem opx_build0 {C : Ctx} {d : Nat} {ty : TypeId} {pos : String} {after : Array Edge} {gd : Option (Nat × Bool)} {fr : List (Nat × SV)} {rows : List (Nat × Bool × SRow)} {nx n : Nat} {K : St → Prop}
  {t e : TypeId} {sz : Nat} (hd : Nat.blt d n = true) (ht : C.P.underlying t = some (.slice e)) (hs : ∀ w, (sizeOf e).run C.P w = .ok sz w)
  (h : ∀ g, K ⟨(d, .any (.slice (some ⟨g, 0, none⟩) 0 0)) :: fr, (nx, true, .blob (OwnS e sz g 0 0 [])) :: rows, nx + 1, n⟩) :
  OpX C ⟨some d, .buildSlice t 0 ⟨[]⟩, ty, pos, after, gd⟩ ⟨fr, rows, nx, n⟩ K := by
 unfold OpX
 intro β a w hs0 next Q hn
 have q0 : (underlying t).run C.P w = .ok (.slice e) w := by simp [underlying, ht]
 have hrun : (execOp a.eval ⟨some d, .buildSlice t 0 ⟨[]⟩, ty, pos, after, gd⟩).run C.P w = .ok (.value (.slice (some ⟨w.heap.size, 0, none⟩) 0 0)) (w.alloc (.cells #[] e)) := by
  have hr : Array.range 0 = #[] := rfl
  simp [execOp, Instr.buildSlice, q0, hs, Instr.fill, newRow, World.alloc_eq, hr]
 unfold Oper.wp
 rw [hrun]
 have hs2 := hs0.alloc (r := .blob (OwnS e sz w.heap.size 0 0 [])) trivial (.cells #[] e) (fun β' hb => ⟨by simp, rfl, #[], by have := Row.new w e #[]; unfold Row at this; exact this, Nat.le_refl _, by unfold maxLen; omega, by simp, by simp, by simp⟩) rfl
 have hs3 := hs2.put (d := d) (by simpa [Nat.blt_eq] using hd) (v := .any (.slice (some ⟨w.heap.size, 0, none⟩) 0 0)) rfl
 exact hn _ _ _ _ (h w.heap.size) hs3
def OwnOut (e : TypeId) (n : Nat) (xs : List Value) (w : World) (ev : Ending) (w' : World) : Prop := ∃ g cap, ev = .returned (.slice (some ⟨g, 0, none⟩) n cap) ∧ w.heap.size ≤ g ∧ g < w'.heap.size ∧ OwnS e 1 g n cap xs g w'.heap[g]? ∧ Below w.heap.size w w'
theorem callOwn {C : Ctx} {d : Nat} {f : FuncId} {args : List SV} {fr : List (Nat × SV)} {rows : List (Nat × Bool × SRow)} {nx n : Nat} {K : St → Prop} (e : TypeId) (m : Nat) (xs : List Value)
  (he : entersB C.P f = true) (hd : Nat.blt d n = true) (hc : ∀ β w, Mem C.base C.w0 rows nx β w → Calls C.P f (SV.dens β args).toArray w (OwnOut e m xs w))
  (h : ∀ g cap, K ⟨(d, .any (.slice (some ⟨g, 0, none⟩) m cap)) :: fr, (nx, true, .blob (OwnS e 1 g m cap xs)) :: rows, nx + 1, n⟩) : CallX C (some d) f args ⟨fr, rows, nx, n⟩ K := by
 unfold CallX
 refine ⟨he, fun β a w hs => (hc β w hs.mem).mono ?_⟩
 rintro ev w' ⟨g, cap, rfl, h1, h2, h3, hb⟩
 have hm := hs.mem
 have hs' : Sat C.base C.w0 ⟨fr, rows, nx, n⟩ β a w' := ⟨hs.defers, hs.size, hs.slot, hm.belowNext hb⟩
 have hs2 := hs'.learn (o := true) (b := g) (Φ := OwnS e 1 g m cap xs) h2 h3 (fun _ => ⟨Nat.le_trans hm.base_le h1, fun i o' r hi => by have := hm.lt i (hm.row i o' r hi).2.2.1; omega⟩) (fun i r hi => by have := hm.lt i (hm.row i true r hi).2.2.1; omega)
 have hs3 := hs2.put (d := d) (by simpa [Nat.blt_eq] using hd) (v := .any (.slice (some ⟨g, 0, none⟩) m cap)) rfl
 exact ⟨_, _, _, rfl, h g cap, hs3⟩
theorem retOwn {base : Nat} {w0 : Base} {rows : List (Nat × Bool × SRow)} {nx : Nat} {β : Nat → Nat} {w : World} (hm : Mem base w0 rows nx β w) (j : Nat) {e : TypeId} {g n cap : Nat} {xs : List Value} (hj : get rows j = some (true, .blob (OwnS e 1 g n cap xs))) : base ≤ g ∧ g < w.heap.size ∧ OwnS e 1 g n cap xs g w.heap[g]? := by
 obtain ⟨h1, -, -, h4⟩ := hm.row j _ _ hj
 have hg : β j = g := h1.2.1
 have h1' := h1.2
 rw [hg] at h1'
 exact ⟨by rw [← hg]; exact h4 rfl, by rw [← hg]; exact h1.1, h1'⟩
end Sym
end Go.Proofs.YtdkhkfdenlabaaaGreatDoor
