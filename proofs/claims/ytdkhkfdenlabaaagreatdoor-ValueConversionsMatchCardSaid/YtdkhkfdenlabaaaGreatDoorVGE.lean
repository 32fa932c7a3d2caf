/- Values, plainly: texts divided at a byte -/
import Derived.Test.YtdkhkfdenlabaaaGreatDoorVGD
import Derived.Test.YtdkhkfdenlabaaaGreatDoorVGA
import Derived.Shelf.Unicode.DecodeSlow
import Derived.Lib.DecodeN
import Derived.Laws.Cover3
set_option linter.unusedSimpArgs false
set_option linter.unusedVariables false
set_option maxRecDepth 100000
set_option maxHeartbeats 64000000
namespace Go.Proofs.YtdkhkfdenlabaaaGreatDoor.af
open Go.Proofs.YtdkhkfdenlabaaaGreatDoor Go.Proofs.YtdkhkfdenlabaaaGreatDoor.ae
def aN (c : UInt8) : Str -> List Str
 | [] => [[]]
 | x :: s => if x = c then [] :: aN c s else match aN c s with
   | [] => [[x]]
   | g :: l => (x :: g) :: l
theorem pV (c : UInt8) (s : Str) : aN c s ≠ [] := by
 cases s with
 | nil => simp [aN]
 | cons x s =>
   unfold aN
   split
   ·simp
   ·split <;> simp
theorem fC {c : UInt8} : ∀ {p : Str}, c ∉ p -> aN c p = [p]
 | [], _ => rfl
 | x :: p, h => by
   simp only [List.mem_cons, not_or] at h
   rw [aN, if_neg (fun e => h.1 e.symm), fC h.2]
theorem nN {c : UInt8} : ∀ {p : Str} (q : Str), c ∉ p -> aN c (p ++ c :: q) = p :: aN c q
 | [], q, _ => by
   show aN c (c :: q) = _
   rw [aN, if_pos rfl]
 | x :: p, q, h => by
   simp only [List.mem_cons, not_or] at h
   show aN c (x :: (p ++ c :: q)) = _
   rw [aN, if_neg (fun e => h.1 e.symm), nN q h.2]
def bK (c : UInt8) (s : Str) : Str × Str × Bool := if c ∈ s then (s.takeWhile (· != c), (s.dropWhile (· != c)).tail, true) else (s, [], false)
theorem NW {c : UInt8} : ∀ s : Str, c ∉ s.takeWhile (· != c)
 | [] => by simp
 | x :: s => by
   by_cases h : x = c
   ·rw [List.takeWhile_cons_of_neg (by simp [h])]; simp
   ·rw [List.takeWhile_cons_of_pos (by simp [h])]
    simp only [List.mem_cons, not_or]
    exact ⟨fun e => h e.symm, NW s⟩
theorem qm {c : UInt8} : ∀ {s : Str}, c ∈ s -> s = s.takeWhile (· != c) ++ c :: (s.dropWhile (· != c)).tail
 | x :: s, h => by
   by_cases hx : x = c
   ·subst hx
    rw [List.takeWhile_cons_of_neg (by simp), List.dropWhile_cons_of_neg (by simp)]
    rfl
   ·rw [List.takeWhile_cons_of_pos (by simp [hx]), List.dropWhile_cons_of_pos (by simp [hx])]
    rw [List.cons_append, <- qm ((List.mem_cons.1 h).resolve_left (fun e => hx e.symm))]
theorem kL {c : UInt8} {s : Str} (h : c ∈ s) : aN c s = (bK c s).1 :: aN c (bK c s).2.1 := by
 have e := qm h
 unfold bK
 rw [if_pos h]
 dsimp only
 conv => lhs; rw [e]
 exact nN _ (NW s)
def lW : Nat -> Str -> Str -> Str × Str
 | 0, d, r => (d, r)
 | k + 1, d, r => if r.head? = some 44 /\ (aW r.tail).length = 3 then lW k (d ++ aW r.tail) (bf r.tail) else (d, r)
def mY (d r : Str) : Str × Str := lW r.length d r
theorem xR : ∀ (k j : Nat) (d r : Str), r.length <= k -> k <= j -> lW j d r = lW k d r
 | 0, j, d, r, h, _ => by
   have : r = [] := List.eq_nil_of_length_eq_zero (by omega)
   subst this
   cases j with
   | zero => rfl
   | succ j => simp [lW]
 | k + 1, 0, d, r, _, h => by omega
 | k + 1, j + 1, d, r, h, hj => by
   unfold lW
   split
   ·rename_i hc
    have h1 := eH r.tail
    have h2 : r.tail.length = r.length - 1 := List.length_tail
    have h3 : r ≠ [] := fun e => by rw [e] at hc; cases hc.1
    have h4 := List.length_pos_iff.2 h3
    exact xR k j _ _ (by omega) (by omega)
   ·rfl
theorem tN (d r : Str) : mY d r = if r.head? = some 44 /\ (aW r.tail).length = 3 then mY (d ++ aW r.tail) (bf r.tail) else (d, r) := by
 unfold mY
 cases hl : r.length with
 | zero =>
   have : r = [] := List.eq_nil_of_length_eq_zero hl
   subst this
   simp [lW]
 | succ k =>
   show (if r.head? = some 44 /\ (aW r.tail).length = 3 then _ else _) = _
   split
   ·have h1 := eH r.tail
    have h2 : r.tail.length = r.length - 1 := List.length_tail
    exact xR _ _ _ _ (Nat.le_refl _) (by omega)
   ·rfl
def grp (s : Str) : Str × Str := if (aW s).length < 1 \/ 3 < (aW s).length then (aW s, bf s) else mY (aW s) (bf s)
def gW (s : Str) : Str × Bool := if s.getLast? = some 37 then (s.dropLast, true) else (s, false)
theorem wQ (s : Str) : aW (s ++ [37]) = aW s /\ bf (s ++ [37]) = bf s ++ [37] := by
 unfold aW bf
 induction s with
 | nil => exact ⟨by decide, by decide⟩
 | cons x s ih =>
   rw [List.cons_append]
   by_cases hx : aY x = true
   ·rw [List.takeWhile_cons_of_pos hx, List.takeWhile_cons_of_pos hx, List.dropWhile_cons_of_pos hx, List.dropWhile_cons_of_pos hx, ih.1, ih.2]
    exact ⟨rfl, rfl⟩
   ·rw [List.takeWhile_cons_of_neg hx, List.takeWhile_cons_of_neg hx, List.dropWhile_cons_of_neg hx, List.dropWhile_cons_of_neg hx]
    exact ⟨rfl, rfl⟩
theorem Ir : ∀ (k : Nat) (d r : Str), lW k d (r ++ [37]) = ((lW k d r).1, (lW k d r).2 ++ [37])
 | 0, d, r => rfl
 | k + 1, d, r => by
   have e : ((r ++ [37]).head? = some 44 /\ (aW (r ++ [37]).tail).length = 3) ↔ (r.head? = some 44 /\ (aW r.tail).length = 3) := by
    cases r with
    | nil => simp
    | cons x r => simp [(wQ r).1]
   unfold lW
   by_cases hc : r.head? = some 44 /\ (aW r.tail).length = 3
   ·rw [if_pos hc, if_pos (e.2 hc)]
    cases r with
    | nil => cases hc.1
    | cons x r =>
      show lW k (d ++ aW (r ++ [37])) (bf (r ++ [37])) = _
      rw [(wQ r).1, (wQ r).2]
      exact Ir k _ _
   ·rw [if_neg hc, if_neg (fun h => hc (e.1 h))]
theorem U3 (s : Str) : grp (s ++ [37]) = ((grp s).1, (grp s).2 ++ [37]) := by
 unfold grp
 rw [(wQ s).1, (wQ s).2]
 split
 ·rfl
 ·unfold mY
  have e : ∀ (r : Str) (d : Str), lW (r ++ [37]).length d (r ++ [37]) = ((lW r.length d r).1, (lW r.length d r).2 ++ [37]) := fun r d => by
   rw [Ir, xR r.length _ d r (Nat.le_refl _) (by simp)]
  exact e _ _
theorem Iu : ∀ (k : Nat) (d r : Str), ∃ p, r = p ++ (lW k d r).2
 | 0, d, r => ⟨[], rfl⟩
 | k + 1, d, r => by
   unfold lW
   split
   ·rename_i hc
    obtain ⟨p, hp⟩ := Iu k (d ++ aW r.tail) (bf r.tail)
    cases r with
    | nil => cases hc.1
    | cons x r =>
      refine ⟨x :: (aW r ++ p), ?_⟩
      show x :: r = x :: (aW r ++ p) ++ (lW k (d ++ aW r) (bf r)).2
      have hp' : bf r = p ++ (lW k (d ++ aW r) (bf r)).2 := hp
      rw [List.cons_append, List.append_assoc, <- hp', l9]
   ·exact ⟨[], rfl⟩
theorem U4 (s : Str) : ∃ p, s = p ++ (grp s).2 := by
 unfold grp
 split
 ·exact ⟨_, (l9 s).symm⟩
 ·obtain ⟨p, hp⟩ := Iu (bf s).length (aW s) (bf s)
  refine ⟨aW s ++ p, ?_⟩
  unfold mY
  rw [List.append_assoc, <- hp, l9]
theorem U1 (s : Str) : (grp s).1 = (grp (gW s).1).1 /\ gW (grp s).2 = ((grp (gW s).1).2, (gW s).2) := by
 unfold gW
 by_cases h : s.getLast? = some 37
 ·rw [if_pos h]
  obtain ⟨t, rfl⟩ : ∃ t, s = t ++ [37] := List.getLast?_eq_some_iff.1 h
  rw [List.dropLast_concat, U3]
  dsimp only
  rw [if_pos (by simp), List.dropLast_concat]
  exact ⟨rfl, rfl⟩
 ·rw [if_neg h]
  refine ⟨rfl, ?_⟩
  dsimp only
  rw [if_neg]
  intro h2
  apply h
  obtain ⟨p, hp⟩ := U4 s
  obtain ⟨t, ht⟩ := List.getLast?_eq_some_iff.1 h2
  rw [hp, ht, <- List.append_assoc]
  simp
def QR (c : UInt8) : Bool := aY c || c == 44
def nX (s : Str) : Str := s.takeWhile QR
def KL (s : Str) : Str := s.dropWhile QR
def Dt : List Str -> Bool
 | [] => true
 | g :: l => (!g.isEmpty && g.all aY) && decide (g.length = 3) && Dt l
def rX : List Str -> Bool
 | [] => false
 | g :: l => (!g.isEmpty && g.all aY) && (l.isEmpty || decide (g.length <= 3)) && Dt l
theorem QS (s : Str) : nX s = match bf s with
  | [] => aW s
  | x :: r => if x = 44 then aW s ++ 44 :: nX r else aW s := by
 unfold nX bf aW
 induction s with
 | nil => rfl
 | cons x s ih =>
   by_cases hx : aY x = true
   ·rw [List.takeWhile_cons_of_pos (by unfold QR; rw [hx]; rfl), List.takeWhile_cons_of_pos hx, List.dropWhile_cons_of_pos hx, ih]
    split
    ·rfl
    ·split <;> rfl
   ·rw [List.takeWhile_cons_of_neg hx, List.dropWhile_cons_of_neg hx]
    dsimp only
    by_cases h4 : x = 44
    ·rw [if_pos h4, List.takeWhile_cons_of_pos (by unfold QR; simp [h4]), h4]; rfl
    ·rw [if_neg h4, List.takeWhile_cons_of_neg (by unfold QR; simp [h4, hx])]
theorem MZ (s : Str) : KL s = match bf s with
  | [] => []
  | x :: r => if x = 44 then KL r else x :: r := by
 unfold KL bf
 induction s with
 | nil => rfl
 | cons x s ih =>
   by_cases hx : aY x = true
   ·rw [List.dropWhile_cons_of_pos (by unfold QR; rw [hx]; rfl), List.dropWhile_cons_of_pos hx, ih]
   ·rw [List.dropWhile_cons_of_neg hx]
    dsimp only
    by_cases h4 : x = 44
    ·rw [if_pos h4, List.dropWhile_cons_of_pos (by unfold QR; simp [h4])]
    ·rw [if_neg h4, List.dropWhile_cons_of_neg (by unfold QR; simp [h4, hx])]
theorem iO (s : Str) : (44 : UInt8) ∉ aW s := fun h => by
 have := List.all_eq_true.1 (gu s) 44 h
 simp [aY] at this
theorem Nh (s : Str) : (!(aW s).isEmpty && (aW s).all aY) = !(aW s).isEmpty := by rw [gu, Bool.and_true]
theorem UZ : ∀ (n : Nat) (d r : Str), r.length <= n -> r.head? = some 44 ->
  (Dt (aN 44 (nX r.tail)) = true -> mY d r = (d ++ (aN 44 (nX r.tail)).flatten, KL r.tail)) /\ (Dt (aN 44 (nX r.tail)) = false -> (mY d r).2.head? = some 44) := by
 intro n
 induction n with
 | zero =>
   intro d r h hr
   have : r = [] := List.eq_nil_of_length_eq_zero (by omega)
   subst this; cases hr
 | succ n ih =>
   intro d r h hr
   cases r with
   | nil => cases hr
   | cons x s =>
     have hx : x = 44 := by simpa using hr
     subst hx
     show (Dt (aN 44 (nX s)) = true -> mY d (44 :: s) = (d ++ (aN 44 (nX s)).flatten, KL s)) /\ (Dt (aN 44 (nX s)) = false -> (mY d (44 :: s)).2.head? = some 44)
     have hl := eH s
     have hg : mY d (44 :: s) = if (aW s).length = 3 then mY (d ++ aW s) (bf s) else (d, 44 :: s) := by
      rw [tN]
      by_cases h3 : (aW s).length = 3
      ·have hc : (44 :: s).head? = some 44 /\ (aW (44 :: s).tail).length = 3 := ⟨rfl, h3⟩
       rw [if_pos hc, if_pos h3]
       rfl
      ·have hc : ¬ ((44 :: s).head? = some 44 /\ (aW (44 :: s).tail).length = 3) := fun h => h3 h.2
       rw [if_neg hc, if_neg h3]
     have stop : ∀ (d y : Str), y.head? ≠ some 44 -> mY d y = (d, y) := fun d y h => by
      have hc : ¬ (y.head? = some 44 /\ (aW y.tail).length = 3) := fun h' => h h'.1
      rw [tN, if_neg hc]
     have hs : (44 :: s).length = s.length + 1 := rfl
     rw [QS s, MZ s]
     by_cases h3 : (aW s).length = 3
     ·rw [if_pos h3] at hg
      rw [hg]
      have hne : (aW s).isEmpty = false := by
       cases hd : aW s with
       | nil => rw [hd] at h3; cases h3
       | cons _ _ => rfl
      have hd2 := Nh s
      have hd3 : (!(aW s).isEmpty && (aW s).all aY) = true := by rw [hd2, hne]; rfl
      have one : Dt [aW s] = true := by rw [Dt, hd3, decide_eq_true h3]; rfl
      cases hR : bf s with
      | nil =>
        dsimp only
        rw [fC (iO s)]
        refine ⟨fun _ => ?_, fun h => ?_⟩
        ·rw [stop _ _ (by simp)]
         simp
        ·rw [one] at h; cases h
      | cons y q =>
        by_cases hy : y = 44
        ·subst hy
         have hi := ih (d ++ aW s) (44 :: q) (by rw [<- hR]; omega) rfl
         have hi : (Dt (aN 44 (nX q)) = true -> mY (d ++ aW s) (44 :: q) = (d ++ aW s ++ (aN 44 (nX q)).flatten, KL q)) /\ (Dt (aN 44 (nX q)) = false -> (mY (d ++ aW s) (44 :: q)).2.head? = some 44) := hi
         have e : Dt (aW s :: aN 44 (nX q)) = Dt (aN 44 (nX q)) := by
          rw [Dt, hd3, decide_eq_true h3]; rfl
         dsimp only
         rw [if_pos rfl, if_pos rfl, nN _ (iO s), e]
         refine ⟨fun hk => ?_, hi.2⟩
         rw [hi.1 hk, List.flatten_cons, List.append_assoc]
        ·dsimp only
         rw [if_neg hy, if_neg hy, fC (iO s)]
         refine ⟨fun _ => ?_, fun h => ?_⟩
         ·rw [stop _ _ (by simpa using hy)]
          simp
         ·rw [one] at h; cases h
     ·rw [if_neg h3] at hg
      rw [hg]
      have hno : ∀ l, Dt (aW s :: l) = false := fun l => by rw [Dt]; simp [h3]
      cases hR : bf s with
      | nil =>
        dsimp only
        rw [fC (iO s), hno]
        exact ⟨fun h => (by cases h), fun _ => rfl⟩
      | cons y q =>
        dsimp only
        by_cases hy : y = 44
        ·rw [if_pos hy, nN _ (iO s), hno]
         exact ⟨fun h => (by cases h), fun _ => rfl⟩
        ·rw [if_neg hy, fC (iO s), hno]
         exact ⟨fun h => (by cases h), fun _ => rfl⟩
theorem Xb (s : Str) : (rX (aN 44 (nX s)) = true -> grp s = ((aN 44 (nX s)).flatten, KL s) /\ (aN 44 (nX s)).flatten ≠ []) /\ (rX (aN 44 (nX s)) = false -> (grp s).1 = [] \/ (grp s).2.head? = some 44) := by
 unfold grp
 rw [QS s, MZ s]
 have hd2 := Nh s
 have stop : ∀ (d y : Str), y.head? ≠ some 44 -> mY d y = (d, y) := fun d y h => by
  have hc : ¬ (y.head? = some 44 /\ (aW y.tail).length = 3) := fun h' => h h'.1
  rw [tN, if_neg hc]
 by_cases h0 : aW s = []
 ·have hno : ∀ l, rX (aW s :: l) = false := fun l => by rw [rX, h0]; simp
  have hl0 : (aW s).length < 1 \/ 3 < (aW s).length := .inl (by rw [h0]; exact Nat.one_pos)
  rw [if_pos hl0]
  cases hR : bf s with
  | nil =>
    dsimp only
    rw [fC (iO s), hno]
    exact ⟨fun h => (by cases h), fun _ => .inl h0⟩
  | cons y q =>
    dsimp only
    by_cases hy : y = 44
    ·rw [if_pos hy, nN _ (iO s), hno]
     exact ⟨fun h => (by cases h), fun _ => .inl h0⟩
    ·rw [if_neg hy, fC (iO s), hno]
     exact ⟨fun h => (by cases h), fun _ => .inl h0⟩
 ·have hne : (aW s).isEmpty = false := by simpa using h0
  have hlen := List.length_pos_iff.2 h0
  have hd3 : (!(aW s).isEmpty && (aW s).all aY) = true := by rw [hd2, hne]; rfl
  have one : rX [aW s] = true := by rw [rX, hd3]; rfl
  have fl : [aW s].flatten = aW s := by simp
  have whole : ∀ y : Str, y.head? ≠ some 44 -> (if (aW s).length < 1 \/ 3 < (aW s).length then (aW s, y) else mY (aW s) y) = (aW s, y) := fun y hy => by
   split
   ·rfl
   ·exact stop _ _ hy
  cases hR : bf s with
  | nil =>
    dsimp only
    rw [fC (iO s), fl]
    refine ⟨fun _ => ⟨whole [] (by simp), h0⟩, fun h => ?_⟩
    rw [one] at h; cases h
  | cons y q =>
    by_cases hy : y = 44
    ·subst hy
     dsimp only
     rw [if_pos rfl, if_pos rfl, nN _ (iO s)]
     have hne2 : (aN 44 (nX q)).isEmpty = false := by simpa using pV 44 (nX q)
     by_cases h3 : 3 < (aW s).length
     ·have e : rX (aW s :: aN 44 (nX q)) = false := by rw [rX, hd3, hne2, decide_eq_false (by omega)]; rfl
      have hc : (aW s).length < 1 \/ 3 < (aW s).length := .inr h3
      rw [if_pos hc, e]
      exact ⟨fun h => (by cases h), fun _ => .inr rfl⟩
     ·have hc : ¬ ((aW s).length < 1 \/ 3 < (aW s).length) := by omega
      have hi := UZ (44 :: q).length (aW s) (44 :: q) (Nat.le_refl _) rfl
      have hi : (Dt (aN 44 (nX q)) = true -> mY (aW s) (44 :: q) = (aW s ++ (aN 44 (nX q)).flatten, KL q)) /\ (Dt (aN 44 (nX q)) = false -> (mY (aW s) (44 :: q)).2.head? = some 44) := hi
      have e : rX (aW s :: aN 44 (nX q)) = Dt (aN 44 (nX q)) := by
       rw [rX, hd3, hne2, decide_eq_true (by omega : (aW s).length <= 3)]; rfl
      rw [if_neg hc, e]
      refine ⟨fun hk => ?_, fun hk => .inr (hi.2 hk)⟩
      rw [hi.1 hk, List.flatten_cons]
      exact ⟨rfl, fun h => h0 (List.append_eq_nil_iff.1 h).1⟩
    ·dsimp only
     rw [if_neg hy, if_neg hy, fC (iO s), fl]
     refine ⟨fun _ => ⟨whole (y :: q) (by simpa using hy), h0⟩, fun h => ?_⟩
     rw [one] at h; cases h
end Go.Proofs.YtdkhkfdenlabaaaGreatDoor.af
namespace Go.Proofs.YtdkhkfdenlabaaaGreatDoor.af
open Go.Proofs.YtdkhkfdenlabaaaGreatDoor
abbrev Str := List UInt8
def bt (s : Str) (i : Nat) : Nat := (s.getD i 0).toNat
def dec (s : Str) : Nat × Nat := Lib.decodeGo (ah s)
theorem uB (s : Str) (i : Nat) : bt s i < 256 := (s.getD i 0).toNat_lt
theorem Fa (s : Str) (i : Nat) : ((ah s).get! i).toNat = bt s i := by
 unfold bt ah ByteArray.get!
 rw [List.getD_eq_getElem?_getD]
 simp [Array.getElem!_eq_getD, Array.getD_eq_getD_getElem?]
 rfl
theorem uP {s : Str} (h : s ≠ []) : dec s = Lib.decodeN s.length (bt s 0) (bt s 1) (bt s 2) (bt s 3) := by
 have h1 : ¬ (ah s).size = 0 := fun e => h (List.eq_nil_of_length_eq_zero e)
 unfold dec Lib.decodeGo
 rw [if_neg h1, Lib.decode_at, Fa, Fa, Fa, Fa]
 rfl
def rune (s : Str) : Nat × Nat := if dec s = (65533, 1) then (0, 0) else dec s
theorem iL {s : Str} (h : s ≠ []) : 1 <= (dec s).2 /\ (dec s).2 <= s.length := by
 have h0 : 0 < s.length := List.length_pos_iff.2 h
 rw [uP h]
 unfold Lib.decodeN
 repeat' split
 all_goals (dsimp only; omega)
theorem dec_lt {s : Str} (h : s ≠ []) : (dec s).1 <= 1114111 := by
 have := uB s 0
 rw [uP h]
 unfold Lib.decodeN
 repeat' split
 all_goals (dsimp only; omega)
theorem nM {s : Str} (h : dec s = (65533, 1)) : rune s = (0, 0) := if_pos h
theorem wR {s : Str} {c n : Nat} (h : dec s = (c, n)) (hn : (c, n) ≠ (65533, 1)) : rune s = (c, n) := by
 unfold rune; rw [if_neg (by rw [h]; exact hn), h]
theorem XF {s : Str} (h : s ≠ []) (h0 : bt s 0 < 128) : rune s = (bt s 0, 1) := by
 have := uP h
 refine wR (by rw [this]; unfold Lib.decodeN; rw [if_pos h0]) (fun e => ?_)
 have := congrArg Prod.fst e
 dsimp only at this; omega
theorem XD {s : Str} (h : s ≠ []) (h0 : 128 <= bt s 0) (h1 : bt s 0 < 194 \/ 245 <= bt s 0) : rune s = (0, 0) := by
 apply nM
 rw [uP h]
 unfold Lib.decodeN
 repeat' split
 all_goals first | rfl | (exfalso; omega)
theorem XG {s : Str} (h : s ≠ []) (h0 : 194 <= bt s 0) (h1 : bt s 0 < 224) : rune s = if 1 < s.length /\ bt s 1 / 64 = 2 then (bt s 0 % 32 * 64 + bt s 1 % 64, 2) else (0, 0) := by
 have hd := uP h
 unfold Lib.decodeN at hd
 rw [if_neg (by omega)] at hd
 by_cases hc : 1 < s.length /\ bt s 1 / 64 = 2
 ·rw [if_pos hc]
  rw [if_pos ⟨by omega, hc⟩, if_pos (by omega)] at hd
  exact wR hd (fun e => by have := congrArg Prod.snd e; simp at this)
 ·rw [if_neg hc]
  rw [if_neg (fun h => hc h.2), if_neg (by omega), if_neg (by omega)] at hd
  exact nM hd
theorem XH {s : Str} (h : s ≠ []) (h0 : 224 <= bt s 0) (h1 : bt s 0 < 240) : rune s = if (1 < s.length /\ bt s 1 / 64 = 2) /\ (2 < s.length /\ bt s 2 / 64 = 2) /\ 2048 <= bt s 0 % 16 * 4096 + bt s 1 % 64 * 64 + bt s 2 % 64 /\ (bt s 0 % 16 * 4096 + bt s 1 % 64 * 64 + bt s 2 % 64 < 55296 \/ 57344 <= bt s 0 % 16 * 4096 + bt s 1 % 64 * 64 + bt s 2 % 64) then (bt s 0 % 16 * 4096 + bt s 1 % 64 * 64 + bt s 2 % 64, 3) else (0, 0) := by
 have hd := uP h
 unfold Lib.decodeN at hd
 rw [if_neg (by omega), if_neg (by omega)] at hd
 by_cases hc : (1 < s.length /\ bt s 1 / 64 = 2) /\ (2 < s.length /\ bt s 2 / 64 = 2)
 ·rw [if_pos ⟨by omega, hc⟩] at hd
  by_cases hr : 2048 <= bt s 0 % 16 * 4096 + bt s 1 % 64 * 64 + bt s 2 % 64 /\ (bt s 0 % 16 * 4096 + bt s 1 % 64 * 64 + bt s 2 % 64 < 55296 \/ 57344 <= bt s 0 % 16 * 4096 + bt s 1 % 64 * 64 + bt s 2 % 64)
  ·rw [if_pos ⟨hc.1, hc.2, hr⟩]
   rw [if_pos ⟨hr.1, hr.2.imp id (fun h => ⟨h, by omega⟩)⟩] at hd
   exact wR hd (fun e => by have := congrArg Prod.snd e; simp at this)
  ·rw [if_neg (fun h => hr h.2.2)]
   rw [if_neg (fun h => hr ⟨h.1, h.2.imp id And.left⟩)] at hd
   exact nM hd
 ·rw [if_neg (fun h => hc ⟨h.1, h.2.1⟩)]
  rw [if_neg (fun h => hc h.2), if_neg (by omega)] at hd
  exact nM hd
theorem XI {s : Str} (h : s ≠ []) (h0 : 240 <= bt s 0) (h1 : bt s 0 < 245) : rune s = if (1 < s.length /\ bt s 1 / 64 = 2) /\ (2 < s.length /\ bt s 2 / 64 = 2) /\ (3 < s.length /\ bt s 3 / 64 = 2) /\ 65536 <= bt s 0 % 8 * 262144 + bt s 1 % 64 * 4096 + bt s 2 % 64 * 64 + bt s 3 % 64 /\ bt s 0 % 8 * 262144 + bt s 1 % 64 * 4096 + bt s 2 % 64 * 64 + bt s 3 % 64 <= 1114111 then (bt s 0 % 8 * 262144 + bt s 1 % 64 * 4096 + bt s 2 % 64 * 64 + bt s 3 % 64, 4) else (0, 0) := by
 have hd := uP h
 unfold Lib.decodeN at hd
 rw [if_neg (by omega), if_neg (by omega), if_neg (by omega)] at hd
 by_cases hc : (1 < s.length /\ bt s 1 / 64 = 2) /\ (2 < s.length /\ bt s 2 / 64 = 2) /\ (3 < s.length /\ bt s 3 / 64 = 2)
 ·rw [if_pos ⟨by omega, hc⟩] at hd
  by_cases hr : 65536 <= bt s 0 % 8 * 262144 + bt s 1 % 64 * 4096 + bt s 2 % 64 * 64 + bt s 3 % 64 /\ bt s 0 % 8 * 262144 + bt s 1 % 64 * 4096 + bt s 2 % 64 * 64 + bt s 3 % 64 <= 1114111
  ·rw [if_pos ⟨hc.1, hc.2.1, hc.2.2, hr⟩]
   rw [if_pos ⟨hr.1, .inr ⟨by omega, hr.2⟩⟩] at hd
   exact wR hd (fun e => by have := congrArg Prod.snd e; simp at this)
  ·rw [if_neg (fun h => hr h.2.2.2)]
   rw [if_neg (fun h => hr ⟨h.1, by omega⟩)] at hd
   exact nM hd
 ·rw [if_neg (fun h => hc ⟨h.1, h.2.1, h.2.2.1⟩)]
  rw [if_neg (fun h => hc h.2)] at hd
  exact nM hd
def o6 (c : Nat) : Bool := decide (c = 9) || decide (c = 10) || (decide (32 <= c) && decide (c < 127)) || (decide (160 <= c) && decide (c < 55296)) || (decide (57343 < c) && decide (c <= 1114111))
def P9 : Nat -> Str -> Bool
 | 0, _ => true
 | n + 1, s => if s = [] then true else if dec s = (65533, 1) \/ o6 (dec s).1 = false then false else P9 n (s.drop (dec s).2)
def vG (s : Str) : Bool := P9 s.length s
theorem EI : ∀ (n m : Nat) (s : Str), s.length <= n -> n <= m -> P9 m s = P9 n s
 | 0, m, s, h, _ => by
   have : s = [] := List.eq_nil_of_length_eq_zero (by omega)
   subst this
   cases m with
   | zero => rfl
   | succ m => simp [P9]
 | n + 1, 0, s, _, h => by omega
 | n + 1, m + 1, s, h, hm => by
   unfold P9
   by_cases hs : s = []
   ·rw [if_pos hs, if_pos hs]
   ·rw [if_neg hs, if_neg hs]
    have := iL hs
    rw [EI n m (s.drop (dec s).2) (by rw [List.length_drop]; omega) (by omega)]
theorem EJ {s : Str} (hs : s ≠ []) : vG s = if dec s = (65533, 1) \/ o6 (dec s).1 = false then false else vG (s.drop (dec s).2) := by
 have h0 : 0 < s.length := List.length_pos_iff.2 hs
 have hd := iL hs
 unfold vG
 obtain ⟨n, hn⟩ : ∃ n, s.length = n + 1 := ⟨s.length - 1, by omega⟩
 rw [hn]
 show (if s = [] then true else _) = _
 rw [if_neg hs, EI (s.drop (dec s).2).length n _ (Nat.le_refl _) (by rw [List.length_drop]; omega)]
def jV (s : Str) : Int := if 32767 < s.length then 3 else if vG s then 0 else 23
def zW (c : UInt8) : UInt8 := if 65 <= c /\ c <= 90 then c + 32 else c
def low (s : Str) : Str := s.map zW
structure VT where
 kind : Int
 num : ae.Fr
 text : Str
 on : Bool
 code : Int
 rows : Int
 cols : Int
 items : List VT
def dY (t : VT) : Int :=
 if t.kind < 0 \/ 5 < t.kind then 8
 else if (t.kind ≠ 1 /\ t.num ≠ ([], [])) \/ (t.kind ≠ 2 /\ t.text ≠ []) \/ (t.kind ≠ 3 /\ t.on = true) \/ (t.kind ≠ 4 /\ t.code ≠ 0) \/ (t.kind ≠ 5 /\ (t.rows ≠ 0 \/ t.cols ≠ 0 \/ t.items ≠ [])) then 4
 else if t.kind = 1 then ae.bQ t.num
 else if t.kind = 2 then jV t.text
 else if t.kind = 4 /\ (t.code < 1 \/ 8 < t.code) then 2
 else 0
def OH (t : VT) : Int := if t.kind = 5 then 8 else dY t
def lZ : List VT -> Int
 | [] => 0
 | x :: l => if OH x ≠ 0 then OH x else lZ l
def iW (t : VT) : Int :=
 if dY t ≠ 0 \/ t.kind ≠ 5 then dY t
 else if t.rows < 1 \/ 100000 < t.rows \/ t.cols < 1 \/ 100000 < t.cols then 2
 else if 100000 < t.rows * t.cols then 3
 else if (t.items.length : Int) ≠ t.rows * t.cols then 4
 else lZ t.items
theorem IL {l : List VT} : lZ l = 0 ↔ ∀ x ∈ l, OH x = 0 := by
 induction l with
 | nil => simp [lZ]
 | cons x l ih =>
   unfold lZ
   by_cases h : OH x = 0
   ·simp [h, ih]
   ·simp [h]
def zV (y : Nat) : Bool := decide (y % 4 = 0) && (decide (y % 100 ≠ 0) || decide (y % 400 = 0))
def dV (y m : Nat) : Nat := if m = 2 then (if zV y then 29 else 28) else if m = 4 \/ m = 6 \/ m = 9 \/ m = 11 then 30 else 31
def uH (y : Nat) : Nat := 365 + (if zV y then 1 else 0)
def oU (y : Nat) : Nat := 365 * (y - 1900) + ((y - 1) / 4 + (y - 1) / 400 - (y - 1) / 100 - 460)
theorem Ut {y : Nat} (h : 1900 <= y) : (oU y : Int) = 365 * ((y : Int) - 1900) + ((y : Int) - 1) / 4 - ((y : Int) - 1) / 100 + ((y : Int) - 1) / 400 - 460 := by
 unfold oU
 have h1 : 460 <= (y - 1) / 4 + (y - 1) / 400 - (y - 1) / 100 := by omega
 omega
theorem Oc : oU 1900 = 0 := rfl
theorem vT {y : Nat} (h : 1900 <= y) : oU (y + 1) = oU y + uH y := by
 have e1 : y + 1 - 1 = y := rfl
 unfold oU uH zV
 rw [e1]
 have h1 : 460 <= (y - 1) / 4 + (y - 1) / 400 - (y - 1) / 100 := by omega
 by_cases h4 : y % 4 = 0
 ·by_cases Iy : y % 100 = 0
  ·by_cases Yy : y % 400 = 0
   ·simp [h4, Iy, Yy]; omega
   ·simp [h4, Iy, Yy]; omega
  ·simp [h4, Iy]; omega
 ·simp [h4]; omega
theorem TW (y : Nat) : 365 <= uH y /\ uH y <= 366 := by unfold uH; split <;> omega
theorem E8 : oU 10000 = 2958464 := by decide
theorem Uu {y : Nat} (h : y < 1900) : oU y = 0 := by unfold oU; omega
attribute [local irreducible] oU
theorem vS {y : Nat} (h : 1900 <= y) (k : Nat) : oU y + 365 * k <= oU (y + k) /\ oU (y + k) <= oU y + 366 * k := by
 induction k with
 | zero => simp
 | succ k ih =>
   have h1 := vT (y := y + k) (by omega)
   have h2 := TW (y + k)
   have h3 : oU (y + (k + 1)) = oU (y + k) + uH (y + k) := h1
   rw [h3]
   clear h1 h3
   generalize uH (y + k) = A at *
   generalize oU (y + k) = B at *
   generalize oU y = D at *
   have e1 : 365 * (k + 1) = 365 * k + 365 := rfl
   have e2 : 366 * (k + 1) = 366 * k + 366 := rfl
   rw [e1, e2]
   clear e1 e2
   generalize 365 * k = p at *
   generalize 366 * k = q at *
   omega
theorem Qs {a b : Nat} (ha : 1900 <= a) (h : oU a < oU b) : a < b := by
 rcases Nat.lt_or_ge a b with h1 | h1
 ·exact h1
 ·exfalso
  rcases Nat.lt_or_ge b 1900 with h2 | h2
  ·have : oU b = 0 := Uu h2
   omega
  ·have := (vS h2 (a - b)).1
   rw [show b + (a - b) = a by omega] at this
   omega
theorem TY {a b n : Nat} (ha : 1900 <= a) (hb : 1900 <= b) (a1 : oU a < n) (a2 : n <= oU (a + 1)) (b1 : oU b < n) (b2 : n <= oU (b + 1)) : a = b := by
 have h1 := Qs ha (show oU a < oU (b + 1) by omega)
 have h2 := Qs hb (show oU b < oU (a + 1) by omega)
 omega
def je (y : Nat) : Nat -> Nat
 | 0 => 0
 | m + 1 => je y m + dV y (m + 1)
theorem Ed (y : Nat) : je y 12 = uH y := by
 unfold uH
 by_cases h : zV y = true
 ·simp [je, dV, h]
 ·simp [je, dV, h]
theorem rO (y m : Nat) : 28 <= dV y m /\ dV y m <= 31 := by
 unfold dV
 repeat' split
 all_goals omega
theorem FX (y : Nat) : ∀ m, je y m <= 31 * m
 | 0 => Nat.le_refl _
 | m + 1 => by
   have := FX y m
   have := rO y (m + 1)
   unfold je; omega
theorem tX (y : Nat) (m k : Nat) : je y m <= je y (m + k) := by
 induction k with
 | zero => exact Nat.le_refl _
 | succ k ih =>
   show je y m <= je y (m + k) + dV y (m + k + 1)
   omega
theorem OW {y a b d : Nat} (a1 : je y a < d) (a2 : d <= je y (a + 1)) (b1 : je y b < d) (b2 : d <= je y (b + 1)) : a = b := by
 rcases Nat.lt_trichotomy a b with h | h | h
 ·exfalso
  have := tX y (a + 1) (b - (a + 1))
  rw [show a + 1 + (b - (a + 1)) = b by omega] at this
  omega
 ·exact h
 ·exfalso
  have := tX y (b + 1) (a - (b + 1))
  rw [show b + 1 + (a - (b + 1)) = a by omega] at this
  omega
def xG (y m d : Int) : Prop := 1900 <= y /\ y <= 9999 /\ 1 <= m /\ m <= 12 /\ 1 <= d /\ d <= (dV y.toNat m.toNat : Nat)
instance (y m d : Int) : Decidable (xG y m d) := by unfold xG; infer_instance
def o8 (y m d : Int) : Int := if xG y m d then ((oU y.toNat + je y.toNat (m.toNat - 1) : Nat) : Int) + d else 0
theorem QQ (y m d : Int) : 0 < o8 y m d ↔ xG y m d := by
 unfold o8
 split
 ·rename_i h
  have := h.2.2.2.2.1
  constructor
  ·intro _; exact h
  ·intro _; omega
 ·rename_i h
  constructor
  ·intro h0; omega
  ·intro h1; exact absurd h1 h
theorem Af (y m d : Int) : 0 <= o8 y m d /\ o8 y m d <= 2958464 := by
 unfold o8
 split
 ·rename_i h
  obtain ⟨h1, h2, h3, h4, h5, h6⟩ := h
  obtain ⟨y, rfl⟩ : ∃ k : Nat, y = (k : Int) := ⟨y.toNat, by omega⟩
  obtain ⟨m, rfl⟩ : ∃ k : Nat, m = ((k + 1 : Nat) : Int) := ⟨m.toNat - 1, by omega⟩
  rw [Int.toNat_natCast, Int.toNat_natCast] at *
  have e1 := vT (y := y) (by omega)
  have e2 := tX y (m + 1) (12 - (m + 1))
  rw [show m + 1 + (12 - (m + 1)) = 12 by omega, Ed] at e2
  have e3 : je y (m + 1) = je y m + dV y (m + 1) := rfl
  have e4 := (vS (y := y + 1) (by omega) (10000 - (y + 1))).1
  rw [show y + 1 + (10000 - (y + 1)) = 10000 by omega, E8] at e4
  rw [show m + 1 - 1 = m from rfl]
  omega
 ·omega
structure MO (n y m d : Nat) : Prop where
 y0 : 1900 <= y
 m0 : m < 12
 y1 : n = oU y + je y m + d
 d0 : 0 < d
 d1 : d <= dV y (m + 1)
theorem MO.one {n y m d y' m' d' : Nat} (h : MO n y m d) (h' : MO n y' m' d') : y = y' /\ m = m' /\ d = d' := by
 have f : ∀ {n y m d : Nat}, MO n y m d -> oU y < n /\ n <= oU (y + 1) := fun {n y m d} h => by
  have e1 := vT h.y0
  have e2 := tX y (m + 1) (12 - (m + 1))
  have := h.m0
  rw [show m + 1 + (12 - (m + 1)) = 12 by omega, Ed] at e2
  have e3 : je y (m + 1) = je y m + dV y (m + 1) := rfl
  have := h.y1; have := h.d0; have := h.d1
  omega
 have hy := TY h.y0 h'.y0 (f h).1 (f h).2 (f h').1 (f h').2
 subst hy
 have hm := OW (y := y) (d := n - oU y) (a := m) (b := m') (by have := h.y1; have := h.d0; omega)
  (by have := h.y1; have := h.d1; have e3 : je y (m + 1) = je y m + dV y (m + 1) := rfl; omega)
  (by have := h'.y1; have := h'.d0; omega)
  (by have := h'.y1; have := h'.d1; have e3 : je y (m' + 1) = je y m' + dV y (m' + 1) := rfl; omega)
 subst hm
 exact ⟨rfl, rfl, by have := h.y1; have := h'.y1; omega⟩
end Go.Proofs.YtdkhkfdenlabaaaGreatDoor.af
namespace Go.Proofs.YtdkhkfdenlabaaaGreatDoor.af
open Go.Proofs.YtdkhkfdenlabaaaGreatDoor Go.Proofs.YtdkhkfdenlabaaaGreatDoor.ae
def oV (s : Str) : Str × Str := if s.head? = some 43 then ([], s.tail) else if s.head? = some 45 then ([45], s.tail) else ([], s)
def Y7 (s : Str) : Str := (oV s).1 ++ ((grp (gW (oV s).2).1).1 ++ (grp (gW (oV s).2).1).2)
def wJ (t : Str) (pc : Bool) : Option Num :=
 if jM t ≠ 0 \/ ay (fA t) ≠ 0 then none
 else if pc = true then (if ay (aG (fA t) (-2)) = 0 then some (aG (fA t) (-2)) else none) else some (fA t)
def nT (s : Str) : Option Num :=
 if (grp (gW (oV s).2).1).1 = [] then none else wJ (Y7 s) (gW (oV s).2).2
def Vq (s : Str) : List Str := aN 44 (nX (gW (oV s).2).1)
def RX (s : Str) : Option Num :=
 if rX (Vq s) = true then wJ ((oV s).1 ++ ((Vq s).flatten ++ KL (gW (oV s).2).1)) (gW (oV s).2).2 else none
theorem Ip : ∀ (k : Nat) (d r : Str), d.all aY = true -> (lW k d r).1.all aY = true
 | 0, d, r, h => h
 | k + 1, d, r, h => by
   unfold lW
   split
   ·exact Ip k _ _ (by rw [List.all_append, h, gu]; rfl)
   ·exact h
theorem U2 (s : Str) : (grp s).1.all aY = true := by
 unfold grp
 split
 ·exact gu s
 ·exact Ip _ _ _ (gu s)
theorem NT {d r : Str} (h : d.all aY = true) (hr : ∀ c q, r = c :: q -> aY c = false) : aW (d ++ r) = d /\ bf (d ++ r) = r := by
 unfold aW bf
 induction d with
 | nil =>
   cases r with
   | nil => exact ⟨rfl, rfl⟩
   | cons c q =>
     have := hr c q rfl
     rw [List.nil_append, List.takeWhile_cons_of_neg (by simp [this]), List.dropWhile_cons_of_neg (by simp [this])]
     exact ⟨rfl, rfl⟩
 | cons c d ih =>
   simp only [List.all_cons, Bool.and_eq_true] at h
   rw [List.cons_append, List.takeWhile_cons_of_pos h.1, List.dropWhile_cons_of_pos h.1, (ih h.2).1, (ih h.2).2]
   exact ⟨rfl, rfl⟩
theorem IA {d r : Str} (hd : d ≠ []) (h : d.all aY = true) : (d ++ r).head? ≠ some 45 := by
 cases d with
 | nil => exact absurd rfl hd
 | cons c d =>
   simp only [List.all_cons, Bool.and_eq_true] at h
   intro e
   have : c = 45 := by simpa using e
   subst this
   simp [aY] at h
theorem UJ {sg d r : Str} (hs : sg = [] \/ sg = [45]) (hd : d ≠ []) (h : d.all aY = true) : (aO (sg ++ (d ++ r))).1 = d ++ r /\ (aO (sg ++ (d ++ r))).2 = decide (sg = [45]) := by
 rcases hs with rfl | rfl
 ·unfold aO
  rw [List.nil_append, if_neg (IA hd h)]
  exact ⟨rfl, rfl⟩
 ·exact ⟨rfl, rfl⟩
theorem O8 {sg d r : Str} (hs : sg = [] \/ sg = [45]) (hd : d ≠ []) (h : d.all aY = true) (hr : r.head? = some 44) : jM (sg ++ (d ++ r)) ≠ 0 := by
 obtain ⟨q, rfl⟩ : ∃ q, r = 44 :: q := by
  cases r with
  | nil => cases hr
  | cons c q => exact ⟨q, by have : c = 44 := by simpa using hr
                             rw [this]⟩
 have h1 := (UJ (r := 44 :: q) hs hd h).1
 have h2 := NT (d := d) (r := 44 :: q) h (fun c r e => by cases e; rfl)
 unfold jM
 split
 ·omega
 ·have : nz (bf (aO (sg ++ (d ++ 44 :: q))).1) = true \/ gY (sg ++ (d ++ 44 :: q)) = [] \/ lU (fD (sg ++ (d ++ 44 :: q))) = false := by
   refine .inr (.inr ?_)
   unfold fD
   rw [h1, h2.2]
   rfl
  rw [if_pos this]
  omega
theorem Gq (s : Str) : (oV s).1 = [] \/ (oV s).1 = [45] := by
 unfold oV
 split
 ·exact .inl rfl
 ·split
  ·exact .inr rfl
  ·exact .inl rfl
theorem Vr (s : Str) : nT s = RX s := by
 have hg := Xb (gW (oV s).2).1
 have hd := U2 (gW (oV s).2).1
 unfold nT RX Y7 Vq
 cases hk : rX (aN 44 (nX (gW (oV s).2).1)) with
 | true =>
   obtain ⟨h1, h2⟩ := hg.1 hk
   rw [h1, if_neg h2, if_pos rfl]
 | false =>
   rw [if_neg Bool.false_ne_true]
   by_cases h0 : (grp (gW (oV s).2).1).1 = []
   ·rw [if_pos h0]
   ·rw [if_neg h0]
    have h1 := (hg.2 hk).resolve_left h0
    unfold wJ
    rw [if_pos (.inl (O8 (Gq s) h0 hd h1))]
theorem Lj {s : Str} {x : Num} (h : nT s = some x) : ay x = 0 := by
 unfold nT at h
 split at h
 ·cases h
 ·unfold wJ at h
  split at h
  ·cases h
  ·rename_i h1
   simp only [not_or, Decidable.not_not] at h1
   split at h
   ·split at h
    ·rename_i h2; cases h; exact h2
    ·cases h
   ·cases h; exact h1.2
def wh (s : Str) : Bool := !s.isEmpty && s.all aY && decide (s.length <= 100)
theorem TQ {s : Str} {c : UInt8} (hc : aY c = false) (h : c ∈ s) : wh s = false := by
 cases hw : wh s with
 | false => rfl
 | true =>
   unfold wh at hw
   simp only [Bool.and_eq_true] at hw
   have := List.all_eq_true.1 hw.1.2 c h
   rw [hc] at this; cases this
def Dw (m : Bool) (a b c : Str) : Option Num := if wh a = true /\ wh b = true /\ wh c = true /\ ax c ≠ 0 then some ⟨m, ax a * ax c + ax b, ax c⟩ else none
def uy (s : Str) : Option Num :=
 if (bK 32 (aO s).1).2.2 = true /\ (bK 47 (bK 32 (aO s).1).2.1).2.2 = true then Dw (aO s).2 (bK 32 (aO s).1).1 (bK 47 (bK 32 (aO s).1).2.1).1 (bK 47 (bK 32 (aO s).1).2.1).2.1 else none
def Xt (s : Str) : Option Num := match aN 32 (aO s).1 with
 | [w, r] => (match aN 47 r with
   | [a, b] => Dw (aO s).2 w a b
   | _ => none)
 | _ => none
theorem NH {m : Bool} {a b c : Str} (h : wh a = false \/ wh b = false \/ wh c = false) : Dw m a b c = none := by
 unfold Dw
 rw [if_neg]
 rintro ⟨h1, h2, h3, -⟩
 rw [h1, h2, h3] at h
 simp at h
theorem UI {c x : UInt8} {s : Str} (h : x ∈ s) (hc : x ≠ c) : x ∈ (bK c s).1 \/ x ∈ (bK c s).2.1 := by
 unfold bK
 split
 ·rename_i h1
  rw [qm h1] at h
  simp only [List.mem_append, List.mem_cons] at h
  rcases h with h | h | h
  ·exact .inl h
  ·exact absurd h hc
  ·exact .inr h
 ·exact .inl h
theorem xB (c : UInt8) (s : Str) : (bK c s).2.2 = decide (c ∈ s) := by
 unfold bK
 split
 ·rename_i h; simp [h]
 ·rename_i h; simp [h]
theorem Vg (s : Str) : uy s = Xt s := by
 unfold uy Xt
 generalize (aO s).2 = m
 generalize (aO s).1 = t
 rw [xB, xB]
 by_cases h1 : (32 : UInt8) ∈ t
 ·rw [kL h1]
  generalize (bK 32 t).1 = w
  generalize (bK 32 t).2.1 = r
  by_cases h2 : (32 : UInt8) ∈ r
  ·rw [kL h2]
   have e : (match w :: (bK 32 r).1 :: aN 32 (bK 32 r).2.1 with
     | [w, r] => (match aN 47 r with
       | [a, b] => Dw m w a b
       | _ => none)
     | _ => none) = none := by
    cases h : aN 32 (bK 32 r).2.1 with
    | nil => exact absurd h (pV _ _)
    | cons _ _ => rfl
   rw [e]
   split
   ·have hn := UI (c := 47) h2 (by decide)
    exact NH (hn.elim (fun h => .inr (.inl (TQ rfl h))) (fun h => .inr (.inr (TQ rfl h))))
   ·rfl
  ·rw [fC h2]
   dsimp only
   by_cases h3 : (47 : UInt8) ∈ r
   ·rw [kL h3, if_pos ⟨decide_eq_true h1, decide_eq_true h3⟩]
    generalize (bK 47 r).1 = a
    generalize (bK 47 r).2.1 = b
    by_cases h4 : (47 : UInt8) ∈ b
    ·rw [kL h4, NH (.inr (.inr (TQ rfl h4)))]
     cases h : aN 47 (bK 47 b).2.1 with
     | nil => exact absurd h (pV _ _)
     | cons _ _ => rfl
    ·rw [fC h4]
   ·rw [fC h3, if_neg (fun h => h3 (of_decide_eq_true h.2))]
 ·rw [fC h1, if_neg (fun h => h1 (of_decide_eq_true h.1))]
def mV (s : Str) (n : Nat) : Bool := s.all aY && decide (s.length = n)
def gX (s : Str) : Int := match aN 45 s with
 | [a, b, c] => if mV a 4 = true /\ mV b 2 = true /\ mV c 2 = true then o8 (ax a : Nat) (ax b : Nat) (ax c : Nat) else 0
 | _ => 0
def Qg (a b : Str) : Bool := !a.isEmpty && a.all aY && decide (a.length <= 2) && mV b 2 && decide (ax a <= 23) && decide (ax b <= 59)
def JA (a p : Str) (point : Bool) : Bool := mV a 2 && decide (ax a <= 59) && (!point || (!p.isEmpty && p.all aY && decide (p.length <= 9)))
def hmN (a b : Str) : Nat := 3600 * ax a + 60 * ax b
def zT (a b c p : Str) (point : Bool) : Option Num := if Qg a b = true /\ JA c p point = true then some ⟨false, hmN a b * 10 ^ p.length + ax (c ++ p), 10 ^ p.length * 86400⟩ else none
def jQ (s : Str) : Option Num := match aN 58 s with
 | [a, b] => if Qg a b = true then some ⟨false, hmN a b, 86400⟩ else none
 | [a, b, c] => zT a b (bK 46 c).1 (bK 46 c).2.1 (bK 46 c).2.2
 | _ => none
def AU (s : Str) : Option Num := match aN 58 s with
 | [a, b] => if Qg a b = true then some ⟨false, hmN a b, 86400⟩ else none
 | [a, b, c] => (match aN 46 c with
   | [x] => zT a b x [] false
   | [x, p] => zT a b x p true
   | _ => none)
 | _ => none
theorem UE (s : Str) : jQ s = AU s := by
 unfold jQ AU
 split
 ·rfl
 ·rename_i a b c _
  by_cases h : (46 : UInt8) ∈ c
  ·rw [kL h]
   have hf : (bK 46 c).2.2 = true := by rw [xB]; exact decide_eq_true h
   rw [hf]
   generalize (bK 46 c).1 = x
   generalize (bK 46 c).2.1 = p
   by_cases h2 : (46 : UInt8) ∈ p
   ·rw [kL h2]
    have hp : JA x p true = false := by
     unfold JA
     have : p.all aY = false := by
      rw [List.all_eq_false]; exact ⟨46, h2, by decide⟩
     rw [this]; simp
    unfold zT
    rw [hp, if_neg (fun h => by cases h.2)]
    cases h : aN 46 (bK 46 p).2.1 with
    | nil => exact absurd h (pV _ _)
    | cons _ _ => rfl
   ·rw [fC h2]
  ·rw [fC h]
   have hc : bK 46 c = (c, [], false) := by unfold bK; rw [if_neg h]
   rw [hc]
 ·rfl
def zX (s : Str) : Option Num := match jQ (bK 32 s).2.1 with
 | some x => if (bK 32 s).2.2 = true /\ 0 < gX (bK 32 s).1 then some (fP ⟨false, (gX (bK 32 s).1).toNat, 1⟩ x) else none
 | none => none
def Fp : VT := ⟨0, ([], []), [], false, 0, 0, 0, []⟩
def eu (c : Int) : VT := ⟨4, ([], []), [], false, c, 0, 0, []⟩
def BX (s : Str) : VT := ⟨2, ([], []), s, false, 0, 0, 0, []⟩
def AP (b : Bool) : VT := ⟨3, ([], []), [], b, 0, 0, 0, []⟩
def iR (f : Fr) : VT := ⟨1, f, [], false, 0, 0, 0, []⟩
def jm (s : Str) : VT := if jV s = 0 then BX s else eu 2
def bD : Nat -> Str
 | 1 => [35, 68, 73, 86, 47, 48, 33]
 | 2 => [35, 86, 65, 76, 85, 69, 33]
 | 3 => [35, 82, 69, 70, 33]
 | 4 => [35, 78, 65, 77, 69, 63]
 | 5 => [35, 78, 85, 77, 33]
 | 6 => [35, 78, 47, 65]
 | 7 => [35, 83, 80, 73, 76, 76, 33]
 | 8 => [35, 67, 89, 67, 76, 69, 33]
 | _ => []
def zt (s : Str) : Nat := if s = bD 1 then 1 else if s = bD 2 then 2 else if s = bD 3 then 3 else if s = bD 4 then 4 else if s = bD 5 then 5 else if s = bD 6 then 6 else if s = bD 7 then 7 else if s = bD 8 then 8 else 0
def jr (s : Str) : Option Num := match nT s with
 | some x => some x
 | none => match uy s with
   | some x => some x
   | none => if 0 < gX s then some ⟨false, (gX s).toNat, 1⟩ else match jQ s with
     | some x => some x
     | none => zX s
def bG (s : Str) : VT :=
 if s = [] then Fp
 else if jV s ≠ 0 then eu 2
 else if s.head? = some 39 then jm s.tail
 else if low s = [116, 114, 117, 101] \/ low s = [102, 97, 108, 115, 101] then AP (decide (low s = [116, 114, 117, 101]))
 else if zt s ≠ 0 then eu (zt s : Nat)
 else match jr s with
  | some x => iR (ak x)
  | none => BX s
end Go.Proofs.YtdkhkfdenlabaaaGreatDoor.af
namespace Go.Proofs.YtdkhkfdenlabaaaGreatDoor
open Go.RowKit
namespace Sym
theorem N7 {C : Ctx} {G : eU} {x y : Operand} {t u e : TypeId} {a : Option Addr} {n c : Nat} (ht : C.P.underlying t = some (.slice e)) : dH C G (.binOp .eql t x y u) [.any (.slice a n c), .any (.slice none 0 0)] (.bool a.isNone) := by
 unfold dH
 intro ρ β w dst ty pos after g _ _ h
 have h' : ρ x = .slice a n c /\ ρ y = .slice none 0 0 := by simpa [jg, SV.aF, SV.den] using h
 have h2 := run_equal_slice_nil (P := C.P) w t e a n c ht
 simp [execOp, eqGuard, binOp, h'.1, h'.2, h2, SV.den]
theorem qO {C : Ctx} {G : eU} {x y : Operand} {t u : TypeId} {va vb : SV} (a b : Bool) (c : Bool) (ha : ∀ β, va.den β = .bool a) (hb : ∀ β, vb.den β = .bool b) (hc : (a == b) = c) (ht : C.P.underlying t = some .bool) : dH C G (.binOp .eql t x y u) [va, vb] (.lit c) := by
 unfold dH
 intro ρ β w dst ty pos after g _ _ h
 have h' : ρ x = .bool a /\ ρ y = .bool b := by simpa [jg, SV.aF, SV.den, ha, hb] using h
 have h2 := run_eql_bool (P := C.P) (w := w) t a b ht
 simp [execOp, eqGuard, h'.1, h'.2, h2, SV.den, hc]
theorem MK {C : Ctx} {G : eU} {x y : Operand} {t u : TypeId} {va vb : SV} (a b : Bool) (ha : ∀ β, va.den β = .bool a) (hb : ∀ β, vb.den β = .bool b) (ht : C.P.underlying t = some .bool) : dH C G (.binOp .neq t x y u) [va, vb] (.bool (a != b)) := by
 unfold dH
 intro ρ β w dst ty pos after g _ _ h
 have h' : ρ x = .bool a /\ ρ y = .bool b := by simpa [jg, SV.aF, SV.den, ha, hb] using h
 have h2 := run_neq_bool (P := C.P) (w := w) t a b ht
 simp [execOp, eqGuard, h'.1, h'.2, h2, SV.den]
 cases a <;> cases b <;> rfl
theorem Lm {C : Ctx} {d : Nat} {ty : TypeId} {pos : String} {after : Array Edge} {gd : Option (Nat × Bool)} {fr : List (Nat × SV)} {rows : List (Nat × Bool × aV)} {nx n : Nat} {K : St -> Prop}
  {t e : TypeId} {sz : Nat} (hd : Nat.blt d n = true) (ht : C.P.underlying t = some (.slice e)) (hs : ∀ w, (sizeOf e).run C.P w = .ok sz w)
  (h : ∀ g, K ⟨(d, .any (.slice (some ⟨g, 0, none⟩) 0 0)) :: fr, (nx, true, .aK (dN e sz g 0 0 [])) :: rows, nx + 1, n⟩) :
  sZ C ⟨some d, .buildSlice t 0 ⟨[]⟩, ty, pos, after, gd⟩ ⟨fr, rows, nx, n⟩ K := by
 unfold sZ
 intro β a w hs0 next Q hn
 have q0 : (underlying t).run C.P w = .ok (.slice e) w := by simp [underlying, ht]
 have hrun : (execOp a.eval ⟨some d, .buildSlice t 0 ⟨[]⟩, ty, pos, after, gd⟩).run C.P w = .ok (.value (.slice (some ⟨w.heap.size, 0, none⟩) 0 0)) (w.alloc (.cells #[] e)) := by
  have hr : Array.range 0 = #[] := rfl
  simp [execOp, Instr.buildSlice, q0, hs, Instr.fill, newRow, World.alloc_eq, hr]
 unfold Oper.wp
 rw [hrun]
 have hs2 := hs0.alloc (r := .aK (dN e sz w.heap.size 0 0 [])) trivial (.cells #[] e) (fun β' hb => ⟨by simp, rfl, #[], by have := Row.new w e #[]; unfold Row at this; exact this, Nat.le_refl _, by unfold maxLen; omega, by simp, by simp, by simp⟩) rfl
 have hs3 := hs2.put (d := d) (by simpa [Nat.blt_eq] using hd) (v := .any (.slice (some ⟨w.heap.size, 0, none⟩) 0 0)) rfl
 exact hn _ _ _ _ (h w.heap.size) hs3
def Qj (e : TypeId) (n : Nat) (xs : List Value) (w : World) (ev : Ending) (w' : World) : Prop := ∃ g cap, ev = .returned (.slice (some ⟨g, 0, none⟩) n cap) /\ w.heap.size <= g /\ g < w'.heap.size /\ dN e 1 g n cap xs g w'.heap[g]? /\ Below w.heap.size w w'
theorem Uy {C : Ctx} {d : Nat} {f : FuncId} {args : List SV} {fr : List (Nat × SV)} {rows : List (Nat × Bool × aV)} {nx n : Nat} {K : St -> Prop} (e : TypeId) (m : Nat) (xs : List Value)
  (he : dK C.P f = true) (hd : Nat.blt d n = true) (hc : ∀ β w, Mem C.base C.w0 rows nx β w -> Calls C.P f (SV.aF β args).toArray w (Qj e m xs w))
  (h : ∀ g cap, K ⟨(d, .any (.slice (some ⟨g, 0, none⟩) m cap)) :: fr, (nx, true, .aK (dN e 1 g m cap xs)) :: rows, nx + 1, n⟩) : fE C (some d) f args ⟨fr, rows, nx, n⟩ K := by
 unfold fE
 refine ⟨he, fun β a w hs => (hc β w hs.mem).mono ?_⟩
 rintro ev w' ⟨g, cap, rfl, h1, h2, h3, hb⟩
 have hm := hs.mem
 have hs' : Sat C.base C.w0 ⟨fr, rows, nx, n⟩ β a w' := ⟨hs.defers, hs.size, hs.slot, hm.fG hb⟩
 have hs2 := hs'.learn (o := true) (b := g) (Φ := dN e 1 g m cap xs) h2 h3 (fun _ => ⟨Nat.le_trans hm.aU h1, fun i o' r hi => by have := hm.lt i (hm.row i o' r hi).2.2.1; omega⟩) (fun i r hi => by have := hm.lt i (hm.row i true r hi).2.2.1; omega)
 have hs3 := hs2.put (d := d) (by simpa [Nat.blt_eq] using hd) (v := .any (.slice (some ⟨g, 0, none⟩) m cap)) rfl
 exact ⟨_, _, _, rfl, h g cap, hs3⟩
theorem XB {base : Nat} {w0 : Base} {rows : List (Nat × Bool × aV)} {nx : Nat} {β : Nat -> Nat} {w : World} (hm : Mem base w0 rows nx β w) (j : Nat) {e : TypeId} {g n cap : Nat} {xs : List Value} (hj : get rows j = some (true, .aK (dN e 1 g n cap xs))) : base <= g /\ g < w.heap.size /\ dN e 1 g n cap xs g w.heap[g]? := by
 obtain ⟨h1, -, -, h4⟩ := hm.row j _ _ hj
 have hg : β j = g := h1.2.1
 have h1' := h1.2
 rw [hg] at h1'
 exact ⟨by rw [<- hg]; exact h4 rfl, by rw [<- hg]; exact h1.1, h1'⟩
end Sym
end Go.Proofs.YtdkhkfdenlabaaaGreatDoor
