/- What another program compressed is read: codes of one length, plainly. -/
import Derived.Test.YtefklhjjhcobmaaDoorSqPlain5
namespace Go.Proofs.YtefklhjjhcobmaaDoor.SqP
abbrev Tok := Nat × Nat × Nat × Nat
def stp (out : List UInt8) (t : Tok) : List UInt8 := if t.1 < 256 then out ++ [UInt8.ofNat t.1] else cps out (t.2.2.2 + 1) (base t.1 + t.2.1)
def dec (ts : List Tok) : List UInt8 := ts.foldl stp []
def okT (n : Nat) (t : Tok) : Prop := t.1 < 256 ∨ (256 ≤ t.1 ∧ t.1 < 272 ∧ t.2.2.1 = extra t.1 ∧ t.2.1 < 2 ^ extra t.1 ∧ t.2.2.2 + 1 ≤ n ∧ t.2.2.2 < 32768)
def Valid : List UInt8 → List Tok → Prop
  | _, [] => True
  | out, t :: r => okT out.length t ∧ Valid (stp out t) r
theorem valid_snoc : ∀ (ts : List Tok) (out : List UInt8) (t : Tok), Valid out ts → okT (ts.foldl stp out).length t → Valid out (ts ++ [t])
  | [], _, _, _, h => ⟨h, trivial⟩
  | u :: r, out, t, h1, h2 => ⟨h1.1, valid_snoc r (stp out u) t h1.2 h2⟩
theorem dec_snoc (ts : List Tok) (t : Tok) : dec (ts ++ [t]) = stp (dec ts) t := by unfold dec; rw [List.foldl_append]; rfl
theorem stp_len (out : List UInt8) (t : Tok) (h : okT out.length t) : out.length + 1 ≤ (stp out t).length := by
  unfold stp
  by_cases h1 : t.1 < 256
  · rw [if_pos h1, List.length_append]; simp
  · rw [if_neg h1, cps_len]
    rcases h with h | h
    · omega
    · have := base_bd t.1 h.2.1 h1; omega
theorem fold_len : ∀ (ts : List Tok) (out : List UInt8), Valid out ts → out.length + ts.length ≤ (ts.foldl stp out).length
  | [], out, _ => by simp
  | t :: r, out, h => by
    have h1 := stp_len out t h.1
    have h2 := fold_len r (stp out t) h.2
    simp only [List.foldl_cons, List.length_cons]; omega
theorem getD_app (A B : List UInt8) (j : Nat) (h : j < A.length) : (A ++ B).getD j 0 = A.getD j 0 := by
  rw [List.getD_eq_getElem?_getD, List.getD_eq_getElem?_getD, List.getElem?_append_left h]
theorem getD_app_r (A B : List UInt8) (j : Nat) : (A ++ B).getD (A.length + j) 0 = B.getD j 0 := by
  rw [List.getD_eq_getElem?_getD, List.getD_eq_getElem?_getD, List.getElem?_append_right (by omega), Nat.add_sub_cancel_left]
/-- the bits of l from i on are those of the text S -/
def Reads (l : List UInt8) (i : Nat) (S : List UInt8) : Prop := i + S.length ≤ 8 * l.length ∧ ∀ j, j < S.length → bitAt l (i + j) = if S.getD j 0 = 49 then 1 else 0
theorem reads_app (l : List UInt8) (i : Nat) (A B : List UInt8) (h : Reads l i (A ++ B)) : Reads l i A ∧ Reads l (i + A.length) B := by
  obtain ⟨h1, h2⟩ := h
  rw [List.length_append] at h1
  refine ⟨⟨by omega, fun j hj => ?_⟩, by omega, fun j hj => ?_⟩
  · rw [h2 j (by rw [List.length_append]; omega), getD_app _ _ _ hj]
  · have h3 := h2 (A.length + j) (by rw [List.length_append]; omega)
    rw [Nat.add_assoc, h3, getD_app_r]
theorem dig_bit (v : Nat) : (if dig v = 49 then 1 else 0) = v % 2 := by
  unfold dig
  by_cases h : v % 2 = 0
  · rw [if_pos h, if_neg (by decide), h]
  · rw [if_neg h, if_pos rfl]; omega
theorem reads_num (l : List UInt8) (i : Nat) : ∀ (k v : Nat), Reads l i (binS k v) → v < 2 ^ k → numAt l i k = v
  | 0, v, _, h => by simp at h; simp [numAt, h]
  | k + 1, v, h, hv => by
    have h2 := reads_app l i _ _ (show Reads l i (binS k (v / 2) ++ [dig v]) from h)
    rw [Nat.pow_succ] at hv
    have ih := reads_num l i k (v / 2) h2.1 (by omega)
    have h3 := h2.2.2 0 (by simp)
    rw [binS_len] at h3
    simp only [numAt, ih]
    rw [Nat.add_zero] at h3
    rw [h3]
    simp only [List.getD_cons_zero]
    rw [dig_bit]; omega
/-- lengths that are 0 or n -/
structure OneLen (L : List Nat) (n : Nat) : Prop where
  len : L.length = 272
  lo : 1 ≤ n
  hi : n ≤ 15
  val : ∀ s, L.getD s 0 = 0 ∨ L.getD s 0 = n
  room : cnt L n ≤ 2 ^ n
theorem OneLen.cnt0 {L : List Nat} {n : Nat} (h : OneLen L n) (m : Nat) (hm : 1 ≤ m) (hn : m ≠ n) : cnt L m = 0 := by
  unfold cnt syms pre
  rw [List.length_eq_zero_iff, List.filter_eq_nil_iff]
  intro s _
  rcases h.val s with e | e <;> rw [e] <;> simp <;> omega
theorem OneLen.ca0 {L : List Nat} {n : Nat} (h : OneLen L n) : ∀ m, m < n → ca L m = 0
  | 0, _ => rfl
  | m + 1, hm => by
    simp only [ca]; rw [h.ca0 m (by omega), h.cnt0 (m + 1) (by omega) (by omega)]
theorem OneLen.kr {L : List Nat} {n : Nat} (h : OneLen L n) : ∀ m, m ≤ 15 → kr L m = if n ≤ m then cnt L n * 2 ^ (15 - n) else 0
  | 0, _ => by rw [if_neg (by have := h.lo; omega)]; rfl
  | m + 1, hm => by
    simp only [SqP.kr]
    rw [h.kr m (by omega)]
    by_cases e : m + 1 = n
    · subst e; rw [if_neg (by omega), if_pos (Nat.le_refl _), Nat.zero_add]
    · rw [h.cnt0 (m + 1) (by omega) e]
      by_cases h2 : n ≤ m
      · rw [if_pos h2, if_pos (by omega)]; omega
      · rw [if_neg h2, if_neg (by omega), Nat.zero_mul]
theorem OneLen.fits {L : List Nat} {n : Nat} (h : OneLen L n) : SqP.kr L 15 ≤ 32768 := by
  rw [h.kr 15 (Nat.le_refl _), if_pos h.hi]
  have h1 := Nat.mul_le_mul_right (2 ^ (15 - n)) h.room
  rw [← Nat.pow_add, show n + (15 - n) = 15 from by have := h.hi; omega] at h1
  exact h1
theorem OneLen.sym {L : List Nat} {n : Nat} (h : OneLen L n) (l : List UInt8) (i s : Nat) (hs : s < 272) (hl : L.getD s 0 = n) (hr : Reads l i (binS n (pre L n s).length)) : sym L l i = (0, s, i + n) := by
  have hlo := h.lo
  have hhi := h.hi
  have hpn : (pre L n s).length < 2 ^ n := by
    refine Nat.lt_of_lt_of_le ?_ h.room
    have h1 := pre_mono L n (s + 1) (L.length - (s + 1))
    rw [h.len, show s + 1 + (272 - (s + 1)) = 272 from by omega, pre_yes L n s hl, List.length_append] at h1
    unfold cnt syms
    rw [h.len]
    simp at h1; omega
  have hnum := reads_num l i n _ hr hpn
  have hend := hr.1
  rw [binS_len] at hend
  rw [← sym_start]
  have key : ∀ e d, d + e + 1 = n → symGo L l (16 - (d + 1)) (d + 1) (numAt l i d) (i + d) = (0, s, i + n) := by
    intro e
    induction e with
    | zero =>
      intro d hd
      rw [show 16 - (d + 1) = (14 - d) + 1 from by omega]
      have hlk : look L (d + 1) (2 * numAt l i d + bitAt l (i + d)) = some s := by
        rw [look_iff L h.len, show d + 1 = n from by omega]
        refine ⟨hs, hl, ?_⟩
        rw [h.ca0 (n - 1) (by omega), Nat.mul_zero, Nat.zero_add, ← hnum, show n = d + 1 from by omega]
        rfl
      rw [symGo_hit L l (14 - d) (d + 1) (numAt l i d) (i + d) s (by omega) hlk, show i + d + 1 = i + n from by omega]
    | succ e ih =>
      intro d hd
      rw [show 16 - (d + 1) = (14 - d) + 1 from by omega]
      have hlk : look L (d + 1) (2 * numAt l i d + bitAt l (i + d)) = none := by
        cases hq : look L (d + 1) (2 * numAt l i d + bitAt l (i + d)) with
        | none => rfl
        | some s' =>
          rw [look_iff L h.len] at hq
          have := h.val s'
          omega
      rw [symGo_miss L l (14 - d) (d + 1) (numAt l i d) (i + d) (by omega) hlk]
      have ih2 := ih (d + 1) (by omega)
      rw [show 16 - (d + 1 + 1) = 14 - d from by omega] at ih2
      exact ih2
  have := key (n - 1) 0 (by omega)
  exact this
def tokT (L : List Nat) (n : Nat) (t : Tok) : List UInt8 := binS n (pre L n t.1).length ++ (if 256 ≤ t.1 then binS t.2.2.1 t.2.1 ++ binS 15 t.2.2.2 else [])
theorem unp_toks {L : List Nat} {n : Nat} (h : OneLen L n) (l : List UInt8) (N : Nat) : ∀ (ts : List Tok) (f i : Nat) (out : List UInt8), Valid out ts → (∀ t ∈ ts, L.getD t.1 0 = n) → (ts.foldl stp out).length = N → N - out.length < f →
    Reads l i (ts.flatMap (tokT L n)) → unp L l N f i out = fin l (i + (ts.flatMap (tokT L n)).length) (ts.foldl stp out)
  | [], f, i, out, _, _, hN, hf, _ => by
    obtain ⟨f, rfl⟩ : ∃ g, f = g + 1 := ⟨f - 1, by omega⟩
    rw [unp_fin _ _ _ _ _ _ (by simp at hN; omega)]; rfl
  | t :: r, f, i, out, hv, hu, hN, hf, hr => by
    obtain ⟨f, rfl⟩ : ∃ g, f = g + 1 := ⟨f - 1, by omega⟩
    have hl := stp_len out t hv.1
    have hfl := fold_len r (stp out t) hv.2
    simp only [List.foldl_cons] at hN
    have hlt : out.length < N := by omega
    simp only [List.flatMap_cons] at hr
    obtain ⟨hr1, hr2⟩ := reads_app l i _ _ hr
    have hend := hr1.1
    have htl : L.getD t.1 0 = n := hu t (by simp)
    have ih := fun i' => unp_toks h l N r f i' (stp out t) hv.2 (fun t ht => hu t (by simp [ht])) hN (by omega)
    simp only [List.flatMap_cons, List.foldl_cons, List.length_append]
    rw [← Nat.add_assoc]
    have hih := ih _ hr2
    unfold tokT at hr1 hend hih ⊢
    by_cases h256 : t.1 < 256
    · rw [if_neg (by omega), List.append_nil] at hr1
      have hs := h.sym l i t.1 (by omega) htl hr1
      rw [if_neg (by omega), List.append_nil, binS_len] at hih ⊢
      rw [unp_byte L l N f i out hlt (by rw [hs]) (by rw [hs]; exact h256), hs]
      have e : stp out t = out ++ [UInt8.ofNat t.1] := by unfold stp; rw [if_pos h256]
      rw [← e]; exact hih
    · rw [if_pos (by omega)] at hr1 hend hih ⊢
      obtain ⟨hr3, hr4⟩ := reads_app l i _ _ hr1
      rw [binS_len] at hr4
      obtain ⟨hr5, hr6⟩ := reads_app l (i + n) _ _ hr4
      rw [binS_len] at hr6
      rcases hv.1 with h0 | ⟨_, hs272, hx, ha, hb, hb2⟩
      · omega
      · have hs := h.sym l i t.1 hs272 htl hr3
        have hn1 := reads_num l (i + n) _ _ hr5 (by rw [hx]; exact ha)
        have hn2 := reads_num l (i + n + t.2.2.1) 15 t.2.2.2 hr6 (by omega)
        rw [List.length_append, List.length_append, binS_len, binS_len, binS_len] at hend hih
        rw [List.length_append, List.length_append, binS_len, binS_len, binS_len]
        have e : stp out t = cps out (t.2.2.2 + 1) (base t.1 + t.2.1) := by unfold stp; rw [if_neg h256]
        rw [unp_copy L l N f i out hlt (by rw [hs]) (by rw [hs]; exact h256) (by rw [hs]; dsimp only; rw [← hx]; omega) (by rw [hs]; dsimp only; rw [← hx, hn2]; omega)
          (by rw [hs]; dsimp only; rw [← hx, hn1]; have := cps_len out (t.2.2.2 + 1) (base t.1 + t.2.1); rw [← e] at this; omega), hs]
        dsimp only
        rw [← hx, hn1, hn2, ← e, show i + n + t.2.2.1 + 15 = i + (n + (t.2.2.1 + 15)) from by omega]
        exact hih
theorem pad_zeros (l : List UInt8) : ∀ (z f i : Nat), (i + z) % 8 = 0 → z < 8 → z ≤ f → (∀ j, j < z → bitAt l (i + j) = 0) → pad l f i = some (i + z)
  | 0, f, i, h, _, _, _ => pad_end l f i (by simpa using h)
  | z + 1, f, i, h, h8, hf, hb => by
    obtain ⟨f, rfl⟩ : ∃ g, f = g + 1 := ⟨f - 1, by omega⟩
    rw [pad_zero l f i (by omega) (by simpa using hb 0 (by omega)), pad_zeros l z f (i + 1) (by rw [← h]; congr 1; omega) (by omega) (by omega) (fun j hj => by have := hb (j + 1) (by omega); rwa [show i + (j + 1) = i + 1 + j from by omega] at this)]
    congr 1; omega
/-- the text's digits as bytes -/
def dg (T : List UInt8) (i : Nat) : Nat := if T.getD i 0 = 49 then 1 else 0
theorem dg_lt (T : List UInt8) (i : Nat) : dg T i < 2 := by unfold dg; split <;> omega
def numT (T : List UInt8) (i : Nat) : Nat → Nat
  | 0 => 0
  | k + 1 => 2 * numT T i k + dg T (i + k)
theorem numT_lt (T : List UInt8) (i : Nat) : ∀ k, numT T i k < 2 ^ k
  | 0 => by simp [numT]
  | k + 1 => by
    have := numT_lt T i k
    have := dg_lt T (i + k)
    simp only [numT, Nat.pow_succ]; omega
def pk (T : List UInt8) (m : Nat) : List UInt8 := (List.range m).map fun i => UInt8.ofNat (numT T (8 * i) 8)
theorem pk_succ (T : List UInt8) (m : Nat) : pk T (m + 1) = pk T m ++ [UInt8.ofNat (numT T (8 * m) 8)] := by
  unfold pk; rw [List.range_succ, List.map_append]; rfl
theorem pk_len (T : List UInt8) (m : Nat) : (pk T m).length = m := by simp [pk]
theorem digits8 (d0 d1 d2 d3 d4 d5 d6 d7 j : Nat) (h0 : d0 < 2) (h1 : d1 < 2) (h2 : d2 < 2) (h3 : d3 < 2) (h4 : d4 < 2) (h5 : d5 < 2) (h6 : d6 < 2) (h7 : d7 < 2) (hj : j < 8) :
    (2 * (2 * (2 * (2 * (2 * (2 * (2 * d0 + d1) + d2) + d3) + d4) + d5) + d6) + d7) / 2 ^ (7 - j) % 2 = match j with | 0 => d0 | 1 => d1 | 2 => d2 | 3 => d3 | 4 => d4 | 5 => d5 | 6 => d6 | _ => d7 := by
  match j, hj with
  | 0, _ => simp only [Nat.reduceSub, Nat.reducePow]; omega
  | 1, _ => simp only [Nat.reduceSub, Nat.reducePow]; omega
  | 2, _ => simp only [Nat.reduceSub, Nat.reducePow]; omega
  | 3, _ => simp only [Nat.reduceSub, Nat.reducePow]; omega
  | 4, _ => simp only [Nat.reduceSub, Nat.reducePow]; omega
  | 5, _ => simp only [Nat.reduceSub, Nat.reducePow]; omega
  | 6, _ => simp only [Nat.reduceSub, Nat.reducePow]; omega
  | 7, _ => simp only [Nat.reduceSub, Nat.reducePow]; omega
theorem bit_pk (T : List UInt8) (m i : Nat) (Q : List UInt8) (h : i < 8 * m) : bitAt (pk T m ++ Q) i = dg T i := by
  have hj : i % 8 < 8 := Nat.mod_lt _ (by omega)
  have hq : i / 8 < m := by omega
  have e1 : (pk T m ++ Q).getD (i / 8) 0 = UInt8.ofNat (numT T (8 * (i / 8)) 8) := by
    rw [getD_app _ _ _ (by rw [pk_len]; exact hq)]
    unfold pk
    rw [List.getD_eq_getElem?_getD, List.getElem?_map, List.getElem?_range hq]; rfl
  have hb := numT_lt T (8 * (i / 8)) 8
  unfold bitAt
  rw [e1, UInt8.toNat_ofNat', show numT T (8 * (i / 8)) 8 % 2 ^ 8 = numT T (8 * (i / 8)) 8 from Nat.mod_eq_of_lt hb]
  simp only [numT, Nat.mul_zero, Nat.zero_add, Nat.add_zero]
  have e := digits8 (dg T (8 * (i / 8))) (dg T (8 * (i / 8) + 1)) (dg T (8 * (i / 8) + 2)) (dg T (8 * (i / 8) + 3)) (dg T (8 * (i / 8) + 4)) (dg T (8 * (i / 8) + 5)) (dg T (8 * (i / 8) + 6)) (dg T (8 * (i / 8) + 7)) (i % 8) (dg_lt _ _) (dg_lt _ _) (dg_lt _ _) (dg_lt _ _) (dg_lt _ _) (dg_lt _ _) (dg_lt _ _) (dg_lt _ _) hj
  rw [e]
  have e2 : i = 8 * (i / 8) + i % 8 := by omega
  generalize i / 8 = q at *
  generalize i % 8 = r at *
  subst e2
  match r, hj with
  | 0, _ => rfl
  | 1, _ => rfl
  | 2, _ => rfl
  | 3, _ => rfl
  | 4, _ => rfl
  | 5, _ => rfl
  | 6, _ => rfl
  | 7, _ => rfl
theorem reads_pk (T : List UInt8) (m : Nat) (Q : List UInt8) (h : T.length = 8 * m) : Reads (pk T m ++ Q) 0 T :=
  ⟨by rw [List.length_append, pk_len]; omega, fun j hj => by rw [Nat.zero_add, bit_pk T m j Q (by omega)]; rfl⟩
theorem nib_num (l : List UInt8) (i : Nat) : nib l i = numAt l (4 * i) 4 := by
  have hb := (l.getD (i / 2) 0).toNat_lt
  unfold nib
  simp only [numAt, bitAt, Nat.add_zero]
  have h2 : i % 2 = 0 ∨ i % 2 = 1 := by omega
  rcases h2 with h2 | h2
  · have e0 : 4 * i / 8 = i / 2 := by omega
    have e1 : (4 * i + 1) / 8 = i / 2 := by omega
    have e2 : (4 * i + 2) / 8 = i / 2 := by omega
    have e3 : (4 * i + 3) / 8 = i / 2 := by omega
    have f0 : 4 * i % 8 = 0 := by omega
    have f1 : (4 * i + 1) % 8 = 1 := by omega
    have f2 : (4 * i + 2) % 8 = 2 := by omega
    have f3 : (4 * i + 3) % 8 = 3 := by omega
    rw [e0, e1, e2, e3, f0, f1, f2, f3, h2]
    generalize (l.getD (i / 2) 0).toNat = b at *
    simp only [Nat.mul_zero, Nat.reduceSub, Nat.reducePow]; omega
  · have e0 : 4 * i / 8 = i / 2 := by omega
    have e1 : (4 * i + 1) / 8 = i / 2 := by omega
    have e2 : (4 * i + 2) / 8 = i / 2 := by omega
    have e3 : (4 * i + 3) / 8 = i / 2 := by omega
    have f0 : 4 * i % 8 = 4 := by omega
    have f1 : (4 * i + 1) % 8 = 5 := by omega
    have f2 : (4 * i + 2) % 8 = 6 := by omega
    have f3 : (4 * i + 3) % 8 = 7 := by omega
    rw [e0, e1, e2, e3, f0, f1, f2, f3, h2]
    generalize (l.getD (i / 2) 0).toNat = b at *
    simp only [Nat.mul_one, Nat.reduceSub, Nat.reducePow]; omega
/-- the lengths' texts, the first k -/
def lensT (L : List Nat) (k : Nat) : List UInt8 := (List.range k).flatMap fun s => binS 4 (L.getD s 0)
theorem lensT_succ (L : List Nat) (k : Nat) : lensT L (k + 1) = lensT L k ++ binS 4 (L.getD k 0) := by
  unfold lensT; rw [List.range_succ, List.flatMap_append]; simp
theorem lensT_len (L : List Nat) : ∀ k, (lensT L k).length = 4 * k
  | 0 => rfl
  | k + 1 => by rw [lensT_succ, List.length_append, lensT_len L k, binS_len]; omega
theorem reads_lens (L : List Nat) (l : List UInt8) (hv : ∀ s, L.getD s 0 < 16) : ∀ k, Reads l 0 (lensT L k) → ∀ s, s < k → nib l s = L.getD s 0
  | 0, _, s, hs => by omega
  | k + 1, h, s, hs => by
    rw [lensT_succ] at h
    obtain ⟨h1, h2⟩ := reads_app l 0 _ _ h
    by_cases e : s = k
    · subst e
      rw [lensT_len, Nat.zero_add] at h2
      rw [nib_num]
      exact reads_num l (4 * s) 4 _ h2 (hv s)
    · exact reads_lens L l hv k h1 s (by omega)
theorem lens_of {L : List Nat} (hL : L.length = 272) (hv : ∀ s, L.getD s 0 < 16) (l : List UInt8) (h : Reads l 0 (lensT L 272)) : lens l = L := by
  apply List.ext_getElem?
  intro s
  unfold lens
  rw [List.getElem?_map]
  by_cases hs : s < 272
  · rw [List.getElem?_range hs, Option.map_some, reads_lens L l hv 272 h s hs, List.getD_eq_getElem?_getD, List.getElem?_eq_getElem (by omega)]; rfl
  · rw [List.getElem?_eq_none (by simp; omega), List.getElem?_eq_none (by omega)]; rfl
theorem reads_drop (l : List UInt8) (k i : Nat) (S : List UInt8) (hk : k ≤ l.length) (h : Reads l (8 * k + i) S) : Reads (l.drop k) i S := by
  obtain ⟨h1, h2⟩ := h
  refine ⟨by rw [List.length_drop]; omega, fun j hj => ?_⟩
  rw [← h2 j hj]
  unfold bitAt
  rw [show (8 * k + i + j) / 8 = k + (i + j) / 8 from by omega, show (8 * k + i + j) % 8 = (i + j) % 8 from by omega, List.getD_eq_getElem?_getD, List.getD_eq_getElem?_getD, List.getElem?_drop]
def hdr (N : Nat) : List UInt8 := [0, UInt8.ofNat (N / 65536), UInt8.ofNat (N / 256), UInt8.ofNat N, 1]
theorem hdr_be4 (N : Nat) (h : N < 16777216) (r : List UInt8) : be4 (hdr N ++ r) = N := by
  have e : be4 (hdr N ++ r) = (0 : UInt8).toNat * 16777216 + (UInt8.ofNat (N / 65536)).toNat * 65536 + (UInt8.ofNat (N / 256)).toNat * 256 + (UInt8.ofNat N).toNat := by
    unfold be4 hdr; rfl
  rw [e, UInt8.toNat_ofNat', UInt8.toNat_ofNat', UInt8.toNat_ofNat']
  simp only [Nat.reducePow]
  have : (0 : UInt8).toNat = 0 := rfl
  rw [this]; omega
/-- the whole: what is packed is read back; with a byte behind it, it is refused -/
theorem unpack_packed {L : List Nat} {n : Nat} (h : OneLen L n) (ts : List Tok) (hv : Valid [] ts) (hu : ∀ t ∈ ts, L.getD t.1 0 = n) (hN : (dec ts).length < 16777216) (z m : Nat) (hz : z < 8) (T : List UInt8)
    (hT : T = lensT L 272 ++ ts.flatMap (tokT L n) ++ List.replicate z 48) (hm : T.length = 8 * m) :
    unpack (hdr (dec ts).length ++ pk T m) = (0, dec ts) ∧ unpack (hdr (dec ts).length ++ pk T m ++ [0]) = (4, []) := by
  have hv16 : ∀ s, L.getD s 0 < 16 := fun s => by have := h.val s; have := h.hi; omega
  have hlT : T.length = 1088 + (ts.flatMap (tokT L n)).length + z := by rw [hT, List.length_append, List.length_append, lensT_len, List.length_replicate]
  have key : ∀ Q : List UInt8, unpack (hdr (dec ts).length ++ (pk T m ++ Q)) = if 0 < Q.length then (4, []) else (0, dec ts) := by
    intro Q
    have hr := reads_pk T m Q hm
    rw [hT] at hr
    obtain ⟨hr1, hr2⟩ := reads_app _ 0 _ _ hr
    obtain ⟨hr3, hr4⟩ := reads_app _ 0 _ _ hr1
    rw [← hT] at hr1 hr2 hr3 hr4
    rw [List.length_append, lensT_len] at hr2
    rw [lensT_len] at hr4
    have hlen : (pk T m ++ Q).length = m + Q.length := by rw [List.length_append, pk_len]
    have hlens := lens_of h.len hv16 _ hr3
    have h4 : (hdr (dec ts).length ++ (pk T m ++ Q)).getD 4 0 = 1 := rfl
    have h5 : (hdr (dec ts).length ++ (pk T m ++ Q)).drop 5 = pk T m ++ Q := rfl
    unfold unpack
    rw [if_neg (by rw [List.length_append]; simp [hdr]), h4, if_neg (by decide), if_neg (by decide), h5, hdr_be4 _ hN]
    unfold body
    rw [if_neg (by omega), hlens, if_pos h.fits]
    have hr5 := reads_drop (pk T m ++ Q) 136 0 _ (by omega) hr4
    rw [unp_toks h _ (dec ts).length ts _ 0 [] hv hu rfl (by simp) hr5, Nat.zero_add]
    have hdl : ((pk T m ++ Q).drop 136).length = m + Q.length - 136 := by rw [List.length_drop, hlen]
    have hp := pad_zeros ((pk T m ++ Q).drop 136) z 8 (ts.flatMap (tokT L n)).length (by omega) hz (by omega) (fun j hj => by
      have hr6 := (reads_drop (pk T m ++ Q) 136 (ts.flatMap (tokT L n)).length _ (by omega) (show Reads (pk T m ++ Q) (8 * 136 + (ts.flatMap (tokT L n)).length) (List.replicate z 48) by rw [show 8 * 136 + (ts.flatMap (tokT L n)).length = 0 + (4 * 272 + (ts.flatMap (tokT L n)).length) from by omega]; exact hr2)).2 j (by rw [List.length_replicate]; exact hj)
      rw [hr6, List.getD_eq_getElem?_getD, List.getElem?_replicate, if_pos hj]; rfl)
    rw [fin_eq, hp]
    dsimp only
    by_cases hq : 0 < Q.length
    · rw [if_pos (by rw [hdl]; omega), if_pos hq]
    · rw [if_neg (by rw [hdl]; omega), if_neg hq]; rfl
  have k1 := key []
  have k2 := key [0]
  rw [List.append_nil, if_neg (by simp)] at k1
  rw [if_pos (by simp), ← List.append_assoc] at k2
  exact ⟨k1, k2⟩
end Go.Proofs.YtefklhjjhcobmaaDoor.SqP
