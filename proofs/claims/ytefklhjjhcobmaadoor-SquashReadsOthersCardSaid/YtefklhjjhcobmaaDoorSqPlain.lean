/- Compressed strings, plainly: bits, codes, the reading of symbols. -/
import Derived.Laws.BitsLemmas
import Derived.Laws.BitsAllLaws
namespace Go.Proofs.YtefklhjjhcobmaaDoor.SqP
def bitAt (l : List UInt8) (i : Nat) : Nat := (l.getD (i / 8) 0).toNat / 2 ^ (7 - i % 8) % 2
theorem bitAt_lt (l : List UInt8) (i : Nat) : bitAt l i < 2 := Nat.mod_lt _ (by omega)
def numAt (l : List UInt8) (i : Nat) : Nat → Nat
  | 0 => 0
  | k + 1 => 2 * numAt l i k + bitAt l (i + k)
theorem numAt_lt (l : List UInt8) (i : Nat) : ∀ k, numAt l i k < 2 ^ k
  | 0 => by simp [numAt]
  | k + 1 => by
    have h := numAt_lt l i k
    have h2 := bitAt_lt l (i + k)
    simp only [numAt, Nat.pow_succ]; omega
theorem numAt_bd (l : List UInt8) (i k : Nat) (hk : k ≤ 15) : numAt l i k < 32768 :=
  Nat.lt_of_lt_of_le (numAt_lt l i k) (Nat.pow_le_pow_right (n := 2) (by omega) hk)
def bases : List Nat := [11, 13, 17, 25, 41, 73, 137, 265]
def base (s : Nat) : Nat := if s < 264 then s - 253 else bases.getD (s - 264) 0
def extra (s : Nat) : Nat := if s < 264 then 0 else s - 263
def pre (L : List Nat) (n k : Nat) : List Nat := (List.range k).filter fun i => L.getD i 0 == n
def syms (L : List Nat) (n : Nat) : List Nat := pre L n L.length
def all (L : List Nat) : Nat → List Nat
  | 0 => []
  | n + 1 => all L n ++ syms L (n + 1)
def cnt (L : List Nat) (n : Nat) : Nat := (syms L n).length
def ca (L : List Nat) : Nat → Nat
  | 0 => 0
  | n + 1 => 2 * ca L n + cnt L (n + 1)
theorem pre_len (L : List Nat) (n k : Nat) : (pre L n k).length ≤ k := by
  have := List.length_filter_le (fun i => L.getD i 0 == n) (List.range k)
  simpa [pre] using this
theorem pre_yes (L : List Nat) (n k : Nat) (h : L.getD k 0 = n) : pre L n (k + 1) = pre L n k ++ [k] := by
  unfold pre
  rw [List.range_succ, List.filter_append, List.filter_cons_of_pos (by rw [h]; exact beq_self_eq_true n), List.filter_nil]
theorem pre_no (L : List Nat) (n k : Nat) (h : L.getD k 0 ≠ n) : pre L n (k + 1) = pre L n k := by
  unfold pre
  rw [List.range_succ, List.filter_append, List.filter_cons_of_neg (by simpa using h), List.filter_nil, List.append_nil]
theorem cnt_le (L : List Nat) (n : Nat) : cnt L n ≤ L.length := pre_len L n L.length
theorem ca_le (L : List Nat) : ∀ n, ca L n + L.length ≤ L.length * 2 ^ n
  | 0 => by simp [ca]
  | n + 1 => by
    have h := ca_le L n
    have h2 := cnt_le L (n + 1)
    simp only [ca, Nat.pow_succ]
    rw [← Nat.mul_assoc]
    generalize L.length * 2 ^ n = x at *
    omega
theorem ca_bd (L : List Nat) (hL : L.length = 272) (n : Nat) (hn : n ≤ 15) : ca L n ≤ 8912896 := by
  have h := ca_le L n
  have h2 : 2 ^ n ≤ 2 ^ 15 := Nat.pow_le_pow_right (by omega) hn
  have h3 : L.length * 2 ^ n ≤ 272 * 32768 := by rw [hL]; exact Nat.mul_le_mul_left 272 h2
  omega
theorem all_len (L : List Nat) : ∀ n, (all L n).length ≤ n * L.length
  | 0 => by simp [all]
  | n + 1 => by
    have h := all_len L n
    have h2 := cnt_le L (n + 1)
    unfold cnt at h2
    simp only [all, List.length_append]
    rw [Nat.succ_mul]
    omega
theorem all_bd (L : List Nat) (hL : L.length = 272) (n : Nat) (hn : n ≤ 15) : (all L n).length ≤ 4080 := by
  have h := all_len L n
  rw [hL] at h
  omega
def look (L : List Nat) (n c : Nat) : Option Nat := if 2 * ca L (n - 1) ≤ c then (syms L n)[c - 2 * ca L (n - 1)]? else none
def symGo (L : List Nat) (l : List UInt8) : Nat → Nat → Nat → Nat → Nat × Nat × Nat
  | 0, _, _, i => (4, 0, i)
  | f + 1, n, c, i => if i = 8 * l.length then (11, 0, i) else
    match look L n (2 * c + bitAt l i) with
    | some s => (0, s, i + 1)
    | none => symGo L l f (n + 1) (2 * c + bitAt l i) (i + 1)
def sym (L : List Nat) (l : List UInt8) (i : Nat) : Nat × Nat × Nat := symGo L l 15 1 0 i
theorem symGo_end (L : List Nat) (l : List UInt8) (f n c i : Nat) (h : i = 8 * l.length) : symGo L l (f + 1) n c i = (11, 0, i) := by
  simp only [symGo]; rw [if_pos h]
theorem symGo_hit (L : List Nat) (l : List UInt8) (f n c i s : Nat) (h : i ≠ 8 * l.length) (h2 : look L n (2 * c + bitAt l i) = some s) : symGo L l (f + 1) n c i = (0, s, i + 1) := by
  simp only [symGo]; rw [if_neg h, h2]
theorem symGo_miss (L : List Nat) (l : List UInt8) (f n c i : Nat) (h : i ≠ 8 * l.length) (h2 : look L n (2 * c + bitAt l i) = none) : symGo L l (f + 1) n c i = symGo L l f (n + 1) (2 * c + bitAt l i) (i + 1) := by
  simp only [symGo]; rw [if_neg h, h2]
theorem look_hit (L : List Nat) (n c : Nat) (h : 2 * ca L (n - 1) ≤ c) (h2 : c - 2 * ca L (n - 1) < cnt L n) : look L n c = some ((syms L n).getD (c - 2 * ca L (n - 1)) 0) := by
  unfold look cnt at *
  rw [if_pos h, List.getD_eq_getElem?_getD, List.getElem?_eq_getElem h2]; rfl
theorem look_low (L : List Nat) (n c : Nat) (h : ¬ 2 * ca L (n - 1) ≤ c) : look L n c = none := by
  unfold look; rw [if_neg h]
theorem look_high (L : List Nat) (n c : Nat) (h : 2 * ca L (n - 1) ≤ c) (h2 : ¬ c - 2 * ca L (n - 1) < cnt L n) : look L n c = none := by
  unfold look cnt at *
  rw [if_pos h, List.getElem?_eq_none (by omega)]
theorem all_succ (L : List Nat) (n : Nat) (h : 1 ≤ n) : all L n = all L (n - 1) ++ syms L n := by
  obtain ⟨m, rfl⟩ : ∃ m, n = m + 1 := ⟨n - 1, by omega⟩
  rfl
theorem all_mono (L : List Nat) (n : Nat) : ∀ k, ∃ r, all L (n + k) = all L n ++ r
  | 0 => ⟨[], by simp⟩
  | k + 1 => by
    obtain ⟨r, h⟩ := all_mono L n k
    exact ⟨r ++ syms L (n + k + 1), by rw [← List.append_assoc, ← h]; rfl⟩
theorem all_get (L : List Nat) (n j : Nat) (h1 : 1 ≤ n) (h2 : n ≤ 15) (hj : j < cnt L n) : (all L 15)[(all L (n - 1)).length + j]? = some ((syms L n).getD j 0) ∧ (all L (n - 1)).length + j < (all L 15).length := by
  obtain ⟨r, hr⟩ := all_mono L n (15 - n)
  rw [show n + (15 - n) = 15 from by omega, all_succ L n h1] at hr
  unfold cnt at hj
  rw [hr]
  constructor
  · rw [List.append_assoc, List.getElem?_append_right (by omega), Nat.add_sub_cancel_left, List.getElem?_append_left hj, List.getD_eq_getElem?_getD, List.getElem?_eq_getElem hj]; rfl
  · simp only [List.length_append]; omega
theorem syms_lt (L : List Nat) (n j : Nat) (hL : L.length = 272) : (syms L n).getD j 0 < 272 := by
  rw [List.getD_eq_getElem?_getD]
  cases h : (syms L n)[j]? with
  | none => simp
  | some x =>
    have := List.mem_of_getElem? h
    unfold syms pre at this
    rw [List.mem_filter, List.mem_range] at this
    simp; omega
def kr (L : List Nat) : Nat → Nat
  | 0 => 0
  | n + 1 => kr L n + cnt L (n + 1) * 2 ^ (15 - (n + 1))
theorem kr_bd (L : List Nat) (hL : L.length = 272) : ∀ n, kr L n ≤ n * 8912896
  | 0 => by simp [kr]
  | n + 1 => by
    have h := kr_bd L hL n
    have h2 := cnt_le L (n + 1)
    rw [hL] at h2
    have h3 : 2 ^ (15 - (n + 1)) ≤ 2 ^ 15 := Nat.pow_le_pow_right (by omega) (by omega)
    have h4 : cnt L (n + 1) * 2 ^ (15 - (n + 1)) ≤ 272 * 32768 := Nat.mul_le_mul h2 h3
    simp only [kr]; omega
def cps (out : List UInt8) (back : Nat) : Nat → List UInt8
  | 0 => out
  | k + 1 => cps out back k ++ [(cps out back k).getD ((cps out back k).length - back) 0]
theorem cps_zero (out : List UInt8) (back : Nat) : cps out back 0 = out := rfl
theorem cps_succ (out : List UInt8) (back k : Nat) : cps out back (k + 1) = cps out back k ++ [(cps out back k).getD ((cps out back k).length - back) 0] := rfl
theorem cps_len (out : List UInt8) (back : Nat) : ∀ k, (cps out back k).length = out.length + k
  | 0 => rfl
  | k + 1 => by simp only [cps, List.length_append, cps_len out back k]; simp; omega
def pad (l : List UInt8) : Nat → Nat → Option Nat
  | 0, i => some i
  | f + 1, i => if i % 8 = 0 then some i else if bitAt l i = 0 then pad l f (i + 1) else none
def fin (l : List UInt8) (i : Nat) (out : List UInt8) : Nat × List UInt8 :=
  match pad l 8 i with
  | none => (4, [])
  | some j => if j < 8 * l.length then (4, []) else (0, out)
def unp (L : List Nat) (l : List UInt8) (n : Nat) : Nat → Nat → List UInt8 → Nat × List UInt8
  | 0, _, _ => (0, [])
  | f + 1, i, out =>
    if out.length < n then
      if (sym L l i).1 ≠ 0 then ((sym L l i).1, [])
      else if (sym L l i).2.1 < 256 then unp L l n f (sym L l i).2.2 (out ++ [UInt8.ofNat (sym L l i).2.1])
      else if 8 * l.length < (sym L l i).2.2 + extra (sym L l i).2.1 + 15 then (11, [])
      else if out.length < numAt l ((sym L l i).2.2 + extra (sym L l i).2.1) 15 + 1 then (2, [])
      else if n - out.length < base (sym L l i).2.1 + numAt l (sym L l i).2.2 (extra (sym L l i).2.1) then (3, [])
      else unp L l n f ((sym L l i).2.2 + extra (sym L l i).2.1 + 15)
        (cps out (numAt l ((sym L l i).2.2 + extra (sym L l i).2.1) 15 + 1) (base (sym L l i).2.1 + numAt l (sym L l i).2.2 (extra (sym L l i).2.1)))
    else fin l i out
theorem symGo_bd (L : List Nat) (l : List UInt8) (hL : L.length = 272) : ∀ f n c i, i ≤ 8 * l.length → (symGo L l f n c i).2.2 ≤ 8 * l.length ∧ (symGo L l f n c i).2.1 < 272 ∧ (symGo L l f n c i).1 < 12
  | 0, n, c, i, h => by simp [symGo, h]
  | f + 1, n, c, i, h => by
    simp only [symGo]
    split
    · simp [h]
    · split
      · rename_i s hs
        unfold look at hs
        split at hs
        · have h2 := syms_lt L n (2 * c + bitAt l i - 2 * ca L (n - 1)) hL
          rw [List.getD_eq_getElem?_getD, hs] at h2
          simp at h2 ⊢; omega
        · cases hs
      · exact symGo_bd L l hL f _ _ _ (by omega)
theorem sym_bd (L : List Nat) (l : List UInt8) (hL : L.length = 272) (i : Nat) (h : i ≤ 8 * l.length) : (sym L l i).2.2 ≤ 8 * l.length ∧ (sym L l i).2.1 < 272 ∧ (sym L l i).1 < 12 := symGo_bd L l hL _ _ _ _ h
section
variable (L : List Nat) (l : List UInt8) (n f i : Nat) (out : List UInt8)
theorem unp_err (h : out.length < n) (e : (sym L l i).1 ≠ 0) : unp L l n (f + 1) i out = ((sym L l i).1, []) := by
  simp only [unp]; rw [if_pos h, if_pos e]
theorem unp_byte (h : out.length < n) (e : (sym L l i).1 = 0) (hs : (sym L l i).2.1 < 256) : unp L l n (f + 1) i out = unp L l n f (sym L l i).2.2 (out ++ [UInt8.ofNat (sym L l i).2.1]) := by
  simp only [unp]; rw [if_pos h, if_neg (by omega), if_pos hs]
theorem unp_short (h : out.length < n) (e : (sym L l i).1 = 0) (hs : ¬ (sym L l i).2.1 < 256) (h1 : 8 * l.length < (sym L l i).2.2 + extra (sym L l i).2.1 + 15) : unp L l n (f + 1) i out = (11, []) := by
  simp only [unp]; rw [if_pos h, if_neg (by omega), if_neg hs, if_pos h1]
theorem unp_range (h : out.length < n) (e : (sym L l i).1 = 0) (hs : ¬ (sym L l i).2.1 < 256) (h1 : ¬ 8 * l.length < (sym L l i).2.2 + extra (sym L l i).2.1 + 15)
    (h2 : out.length < numAt l ((sym L l i).2.2 + extra (sym L l i).2.1) 15 + 1) : unp L l n (f + 1) i out = (2, []) := by
  simp only [unp]; rw [if_pos h, if_neg (by omega), if_neg hs, if_neg h1, if_pos h2]
theorem unp_large (h : out.length < n) (e : (sym L l i).1 = 0) (hs : ¬ (sym L l i).2.1 < 256) (h1 : ¬ 8 * l.length < (sym L l i).2.2 + extra (sym L l i).2.1 + 15)
    (h2 : ¬ out.length < numAt l ((sym L l i).2.2 + extra (sym L l i).2.1) 15 + 1) (h3 : n - out.length < base (sym L l i).2.1 + numAt l (sym L l i).2.2 (extra (sym L l i).2.1)) : unp L l n (f + 1) i out = (3, []) := by
  simp only [unp]; rw [if_pos h, if_neg (by omega), if_neg hs, if_neg h1, if_neg h2, if_pos h3]
theorem unp_copy (h : out.length < n) (e : (sym L l i).1 = 0) (hs : ¬ (sym L l i).2.1 < 256) (h1 : ¬ 8 * l.length < (sym L l i).2.2 + extra (sym L l i).2.1 + 15)
    (h2 : ¬ out.length < numAt l ((sym L l i).2.2 + extra (sym L l i).2.1) 15 + 1) (h3 : ¬ n - out.length < base (sym L l i).2.1 + numAt l (sym L l i).2.2 (extra (sym L l i).2.1)) :
    unp L l n (f + 1) i out = unp L l n f ((sym L l i).2.2 + extra (sym L l i).2.1 + 15) (cps out (numAt l ((sym L l i).2.2 + extra (sym L l i).2.1) 15 + 1) (base (sym L l i).2.1 + numAt l (sym L l i).2.2 (extra (sym L l i).2.1))) := by
  conv => lhs; unfold unp
  rw [if_pos h, if_neg (by omega), if_neg hs, if_neg h1, if_neg h2, if_neg h3]
theorem unp_fin (h : ¬ out.length < n) : unp L l n (f + 1) i out = fin l i out := by
  simp only [unp]; rw [if_neg h]
end
theorem pad_done (l : List UInt8) (f i : Nat) (h : i % 8 = 0) : pad l (f + 1) i = some i := by simp only [pad]; rw [if_pos h]
theorem pad_zero (l : List UInt8) (f i : Nat) (h : i % 8 ≠ 0) (h2 : bitAt l i = 0) : pad l (f + 1) i = pad l f (i + 1) := by simp only [pad]; rw [if_neg h, if_pos h2]
theorem pad_one (l : List UInt8) (f i : Nat) (h : i % 8 ≠ 0) (h2 : bitAt l i ≠ 0) : pad l (f + 1) i = none := by simp only [pad]; rw [if_neg h, if_neg h2]
theorem pad_nil (l : List UInt8) (i : Nat) : pad l 0 i = some i := rfl
theorem pad_end (l : List UInt8) (f i : Nat) (h : i % 8 = 0) : pad l f i = some i := by
  cases f with
  | zero => rfl
  | succ f => exact pad_done l f i h
theorem fin_eq (l : List UInt8) (i : Nat) (out : List UInt8) : fin l i out = match pad l 8 i with | none => (4, []) | some j => if j < 8 * l.length then (4, []) else (0, out) := rfl
theorem base_bd (s : Nat) (h : s < 272) (h2 : ¬ s < 256) : 3 ≤ base s ∧ base s ≤ 265 ∧ extra s ≤ 8 := by
  have key : ∀ s : Fin 16, 3 ≤ base (256 + s.val) ∧ base (256 + s.val) ≤ 265 ∧ extra (256 + s.val) ≤ 8 := by decide
  have := key ⟨s - 256, by omega⟩
  rwa [show 256 + (s - 256) = s from by omega] at this
def be4 (l : List UInt8) : Nat := (l.getD 0 0).toNat * 16777216 + (l.getD 1 0).toNat * 65536 + (l.getD 2 0).toNat * 256 + (l.getD 3 0).toNat
theorem be4_lt (l : List UInt8) : be4 l < 4294967296 := by
  unfold be4
  have h0 := (l.getD 0 0).toNat_lt
  have h1 := (l.getD 1 0).toNat_lt
  have h2 := (l.getD 2 0).toNat_lt
  have h3 := (l.getD 3 0).toNat_lt
  omega
def nib (l : List UInt8) (i : Nat) : Nat := (l.getD (i / 2) 0).toNat / 2 ^ (4 - 4 * (i % 2)) % 16
def lens (l : List UInt8) : List Nat := (List.range 272).map (nib l)
def body (r : List UInt8) (n : Nat) : Nat × List UInt8 :=
  if r.length < 136 then (11, []) else if kr (lens r) 15 ≤ 32768 then unp (lens r) (r.drop 136) n (n + 1) 0 [] else (4, [])
def unpack (l : List UInt8) : Nat × List UInt8 :=
  if l.length < 5 then (11, []) else if 1 < (l.getD 4 0).toNat then (8, [])
  else if (l.getD 4 0).toNat = 0 then if (l.drop 5).length < be4 l then (11, []) else if be4 l < (l.drop 5).length then (4, []) else (0, l.drop 5)
  else body (l.drop 5) (be4 l)
theorem sym_start (L : List Nat) (l : List UInt8) (i : Nat) : symGo L l (16 - 1) 1 0 i = sym L l i := rfl
theorem symGo_zero (L : List Nat) (l : List UInt8) (n c i : Nat) : symGo L l 0 n c i = (4, 0, i) := rfl
attribute [irreducible] symGo sym look unp cps fin pad be4
end Go.Proofs.YtefklhjjhcobmaaDoor.SqP
