/- Blocks of cells and what keeps them: words for the contracts' worlds. Strings as lists of bytes: words for the contracts. Numbers as lists of digits in any base. Products, quotients, halves and common divisors, digit by digit. Numbers as texts. Fractions. Values, plainly: characters, texts, errors of values. Patterns: the characters of a text and their codes. Patterns: what they match; a set of places, character by character, and a row of places, piece by piece, come to the same. A whole block stored cell by cell. -/
import Derived.WalkKit
import Derived.Lib.Hide
import Derived.Handy
import Derived.WalkSmall
import Derived.BigQuiet
import Derived.Deep.QuietTactic
import Derived.Laws.CopyOwn
import Derived.Test.YtlccmanncfbdkaaDoorRows
import Derived.WalkLawsBesides
import Derived.Deep.CutBlock
import Derived.Deep.DeepCutAuto
import Derived.OwnWalk
import Derived.Shelf.Abstract
import Derived.Lib.ItoaNum
import Derived.Shelf.Unicode.DecodeSlow
import Derived.Lib.DecodeN
set_option linter.unusedSimpArgs false
set_option linter.unusedVariables false
namespace Go.Proofs.YtlccmanncfbdkaaDoor
open Go.RowKit
/-- a fact kept from the walk: a structure, so that nothing unfolds it -/
structure Bx (p : Prop) : Prop where
  out : p
/-- block b holds the cells cs, written freely -/
def Row (w : World) (b : Nat) (t : TypeId) (cs : Array Value) : Prop := w.heap[b]? = some (.cells cs t (0, 0))
theorem Row.cell {w : World} {b : Nat} {t : TypeId} {cs : Array Value} (h : Row w b t cs) (j : Nat) : w.cell? ⟨b, j, none⟩ = cs[j]? := cell_of_row _ _ _ _ _ _ h
theorem Row.frozen {w : World} {b : Nat} {t : TypeId} {cs : Array Value} (h : Row w b t cs) (j : Nat) : w.frozen? ⟨b, j, none⟩ = false := frozen_of_row _ _ _ _ _ h
theorem Row.lt {w : World} {b : Nat} {t : TypeId} {cs : Array Value} (h : Row w b t cs) : b < w.heap.size := by
  unfold Row at h
  rcases Nat.lt_or_ge b w.heap.size with h' | h'
  · exact h'
  · rw [Array.getElem?_eq_none h'] at h; cases h
theorem Row.set {w : World} {b : Nat} {t : TypeId} {cs : Array Value} (h : Row w b t cs) (j : Nat) (v : Value) : Row (w.setCell ⟨b, j, none⟩ v) b t (cs.setIfInBounds j v) := heap_setCell_same _ _ _ _ _ _ h
theorem Row.other {w : World} {b : Nat} {t : TypeId} {cs : Array Value} (h : Row w b t cs) {a : Addr} (ha : a.block ≠ b) (v : Value) : Row (w.setCell a v) b t cs := by
  unfold Row
  rw [heap_setCell_other _ _ _ _ (fun e => ha e.symm)]; exact h
theorem Row.drew {w : World} {b : Nat} {t : TypeId} {cs : Array Value} (h : Row w b t cs) : Row w.drew b t cs := h
theorem Row.alloc {w : World} {b : Nat} {t : TypeId} {cs : Array Value} (h : Row w b t cs) (o : Obj) : Row (w.alloc o) b t cs := by
  unfold Row
  rw [Below.heap_alloc _ _ _ h.lt]; exact h
theorem Row.new (w : World) (t : TypeId) (cs : Array Value) : Row (w.alloc (.cells cs t)) w.heap.size t cs := heap_alloc_new _ _
theorem Row.below {w w' : World} {B b : Nat} {t : TypeId} {cs : Array Value} (h : Row w b t cs) (hb : Below B w w') (hB : b < B) : Row w' b t cs := by
  unfold Row
  rw [hb.block b hB]; exact h
theorem Row.same {w : World} {b : Nat} {t : TypeId} {cs cs' : Array Value} (h : Row w b t cs) (e : cs = cs') : Row w b t cs' := e ▸ h

/-- w' is w with new blocks; of the old ones only those in S may have turned -/
structure Keep (S : Nat → Prop) (w w' : World) : Prop where
  os : w'.os = w.os
  tape : w'.tape = w.tape
  output : w'.output = w.output
  size : w.heap.size ≤ w'.heap.size
  block : ∀ k, k < w.heap.size → ¬ S k → w'.heap[k]? = w.heap[k]?
theorem Keep.refl (S : Nat → Prop) (w : World) : Keep S w w := ⟨rfl, rfl, rfl, Nat.le_refl _, fun _ _ _ => rfl⟩
theorem Keep.trans {S : Nat → Prop} {a b c : World} (h : Keep S a b) (k : Keep S b c) : Keep S a c :=
  ⟨k.os.trans h.os, k.tape.trans h.tape, k.output.trans h.output, Nat.le_trans h.size k.size, fun i hi hs => (k.block i (Nat.lt_of_lt_of_le hi h.size) hs).trans (h.block i hi hs)⟩
theorem Keep.mono {S T : Nat → Prop} {w w' : World} (h : Keep S w w') (hs : ∀ k, k < w.heap.size → S k → T k) : Keep T w w' :=
  ⟨h.os, h.tape, h.output, h.size, fun k hk ht => h.block k hk (fun s => ht (hs k hk s))⟩
theorem Keep.drew {S : Nat → Prop} {a w : World} (h : Keep S a w) : Keep S a w.drew := ⟨h.os, h.tape, h.output, h.size, h.block⟩
theorem Keep.alloc {S : Nat → Prop} {a w : World} (h : Keep S a w) (o : Obj) : Keep S a (w.alloc o) :=
  ⟨h.os, h.tape, h.output, by have := h.size; simp; omega, fun k hk hs => (Below.heap_alloc w o k (Nat.lt_of_lt_of_le hk h.size)).trans (h.block k hk hs)⟩
theorem Keep.setCell {S : Nat → Prop} {a w : World} (h : Keep S a w) {p : Addr} (hp : p.block < a.heap.size → S p.block) (u : Value) : Keep S a (w.setCell p u) :=
  ⟨h.os, h.tape, h.output, by have := h.size; simp [World.setCell]; omega, fun k hk hs => by
    rw [Below.heap_setCell _ _ _ _ (fun e => hs (by subst e; exact hp hk))]; exact h.block k hk hs⟩
theorem Keep.below {S : Nat → Prop} {w w' : World} (h : Keep S w w') {B : Nat} (hB : B ≤ w.heap.size) (hS : ∀ k, k < B → ¬ S k) : Below B w w' :=
  ⟨h.os, h.tape, h.output, h.size, fun k hk => h.block k (Nat.lt_of_lt_of_le hk hB) (hS k hk)⟩
theorem Keep.row {S : Nat → Prop} {w w' : World} (h : Keep S w w') {b : Nat} {t : TypeId} {cs : Array Value} (hr : Row w b t cs) (hS : ¬ S b) : Row w' b t cs := by
  unfold Row
  rw [h.block b hr.lt hS]; exact hr
def bvals (l : List UInt8) : List Value := l.map fun b => Value.int .u8 (b.toNat : Int)
theorem owns_nil (w : World) (base : Nat) (e : TypeId) (size : Nat) : w.ownsRow base e size (.slice none 0 0) 0 [] := ⟨by simp, .inl ⟨rfl, rfl⟩⟩
end Go.Proofs.YtlccmanncfbdkaaDoor
namespace Go.Proofs.YtlccmanncfbdkaaDoor
open Go.RowKit
def bstr (l : List UInt8) : ByteArray := ⟨l.toArray⟩
theorem bstr_of (s : ByteArray) : ∃ l, s = bstr l := ⟨s.data.toList, rfl⟩
theorem bstr_list (l : List UInt8) : (bstr l).toList = l := by unfold bstr; rw [ByteArray.toList_mk]
theorem bstr_size (l : List UInt8) : (bstr l).size = l.length := rfl
theorem bstr_app (a b : List UInt8) : bstr a ++ bstr b = bstr (a ++ b) := by
  apply ByteArray.ext
  simp [bstr]
theorem bstr_at (T : List UInt8) (p : Nat) (hp : p < (bstr T).size) : (bstr T)[p] = T.getD p 0 := by
  rw [List.getD_eq_getElem?_getD, List.getElem?_eq_getElem (by simpa [bstr_size] using hp)]
  rfl
theorem bstr_ext (T : List UInt8) (i j : Nat) : (bstr T).extract i j = bstr ((T.take j).drop i) := by
  apply ByteArray.ext
  apply Array.toList_inj.1
  rw [ByteArray.data_extract]
  unfold bstr
  rw [Array.toList_extract, List.extract_eq_take_drop, List.drop_take]
theorem take_next {α : Type} (l : List α) (k : Nat) (h : k < l.length) : l.take (k + 1) = l.take k ++ [l[k]] := List.take_succ_eq_append_getElem h
theorem take_next0 (l : List UInt8) (k : Nat) (h : k < l.length) : l.take (k + 1) = l.take k ++ [l.getD k 0] := by
  rw [take_next l k h, List.getD_eq_getElem?_getD, List.getElem?_eq_getElem h]; rfl
end Go.Proofs.YtlccmanncfbdkaaDoor
namespace Go.Proofs.YtlccmanncfbdkaaDoor
namespace ExP
def dig (b k x : Nat) : Nat := x / b ^ k % b
def tab {α : Type} (n : Nat) (f : Nat → α) : List α := (List.range n).map f
def dgN (b n x : Nat) : List Nat := tab n (fun k => dig b k x)
theorem mod_next (b i x : Nat) : x % b ^ (i + 1) = x % b ^ i + dig b i x * b ^ i := by
  rw [Nat.mod_pow_succ, dig, Nat.mul_comm]
/-- a digit set anew -/
def upd (b V j d : Nat) : Nat := V % b ^ j + d * b ^ j + V / b ^ (j + 1) * b ^ (j + 1)
theorem parts (b V j : Nat) : V = V % b ^ j + dig b j V * b ^ j + V / b ^ (j + 1) * b ^ (j + 1) := by
  have h := Nat.mod_add_div V (b ^ (j + 1))
  rw [mod_next, Nat.mul_comm] at h
  rw [Nat.mul_comm (V / b ^ (j + 1))]
  rw [Nat.mul_comm] at h
  omega
/-- how many digits -/
def ndF (b : Nat) : Nat → Nat → Nat
  | 0, _ => 0
  | f + 1, x => if x = 0 then 0 else ndF b f (x / b) + 1
def nd (b x : Nat) : Nat := ndF b x x
theorem ndF_spec {b : Nat} (hb : 2 ≤ b) : ∀ (f x : Nat), x ≤ f → x < b ^ ndF b f x ∧ (ndF b f x = 0 ∨ b ^ (ndF b f x - 1) ≤ x)
  | 0, x, h => by
    obtain rfl : x = 0 := by omega
    simp [ndF]
  | f + 1, x, h => by
    unfold ndF
    split
    · rename_i h0; subst h0; simp
    · rename_i h0
      have hlt : x / b < x := Nat.div_lt_self (by omega) (by omega)
      obtain ⟨h1, h2⟩ := ndF_spec hb f (x / b) (by omega)
      refine ⟨?_, .inr ?_⟩
      · rw [Nat.pow_succ]; exact (Nat.div_lt_iff_lt_mul (by omega)).1 h1
      · rw [Nat.add_sub_cancel]
        rcases h2 with h2 | h2
        · rw [h2]; simp; omega
        · by_cases h3 : ndF b f (x / b) = 0
          · rw [h3]; simp; omega
          · have e : ndF b f (x / b) = (ndF b f (x / b) - 1) + 1 := by omega
            rw [e, Nat.pow_succ]
            exact Nat.le_trans (Nat.mul_le_mul_right _ h2) (Nat.div_mul_le_self _ _)
theorem nd_lt {b : Nat} (hb : 2 ≤ b) (x : Nat) : x < b ^ nd b x := (ndF_spec hb x x (Nat.le_refl _)).1
theorem nd_le {b : Nat} (hb : 2 ≤ b) {x n : Nat} (h : x < b ^ n) : nd b x ≤ n := by
  rcases (ndF_spec hb x x (Nat.le_refl _)).2 with h0 | h0
  · unfold nd; omega
  · unfold nd
    rcases Nat.lt_or_ge n (ndF b x x) with h1 | h1
    · have := Nat.pow_le_pow_right (n := b) (by omega) (show n ≤ ndF b x x - 1 by omega)
      omega
    · exact h1
theorem le_of_nd {b : Nat} (hb : 2 ≤ b) {x n : Nat} (h : n < nd b x) : b ^ n ≤ x := by
  rcases Nat.lt_or_ge x (b ^ n) with h1 | h1
  · have := nd_le hb h1; omega
  · exact h1
theorem nd_pos {b : Nat} (hb : 2 ≤ b) {x : Nat} : 0 < nd b x ↔ 0 < x := by
  constructor
  · intro h; have := le_of_nd hb h; simp at this; omega
  · intro h
    rcases Nat.eq_zero_or_pos (nd b x) with h0 | h0
    · have := nd_lt hb x; rw [h0] at this; simp at this; omega
    · exact h0
def dg (b x : Nat) : List Nat := dgN b (nd b x) x
/-- sums -/
structure PlusI (b x y i c S : Nat) : Prop where
  eq : S + c * b ^ i = x % b ^ i + y % b ^ i
  lt : S < b ^ i
  top : i = 0 ∨ b ^ (i - 1) ≤ x + y
/-- differences -/
structure MinusI (b x y i c D : Nat) : Prop where
  eq : y % b ^ i + D = x % b ^ i + c * b ^ i
  lt : D < b ^ i
  bit : c ≤ 1
end ExP
end Go.Proofs.YtlccmanncfbdkaaDoor
namespace Go.Proofs.YtlccmanncfbdkaaDoor
namespace ExP
/-- products, the program's -/
structure TimesI (b x y lb i k c V : Nat) : Prop where
  eq : V + c * b ^ (i + k) = (x % b ^ i) * y + dig b i x * b ^ i * (y % b ^ k)
  lt : V < b ^ (i + lb)
  bit : c < b
structure CarryI (b x y i k c S : Nat) : Prop where
  eq : S + c * b ^ k = ((x % b ^ i) * y) % b ^ k + dig b i x * b ^ i * (y % b ^ (k - i))
  lt : S < b ^ k
/-- the quotient's digits from i on -/
structure DivI (b x m i V r : Nat) : Prop where
  v : V = x / b ^ i / m * b ^ i
  r : r = x / b ^ i % m
theorem lead {b y : Nat} (hb : 2 ≤ b) (hy : 0 < y) : dig b (nd b y - 1) y = y / b ^ (nd b y - 1) ∧ 0 < y / b ^ (nd b y - 1) := by
  have h0 := (nd_pos hb).2 hy
  have h1 := nd_lt hb y
  have e : nd b y = nd b y - 1 + 1 := by omega
  constructor
  · unfold dig
    apply Nat.mod_eq_of_lt
    apply Nat.div_lt_of_lt_mul
    rw [← Nat.pow_succ, Nat.succ_eq_add_one, ← e]; exact h1
  · exact Nat.div_pos (le_of_nd hb (by omega)) (Nat.pow_pos (by omega))
end ExP
end Go.Proofs.YtlccmanncfbdkaaDoor
namespace Go.Proofs.YtlccmanncfbdkaaDoor
namespace ExP
abbrev Str := List UInt8
end ExP
end Go.Proofs.YtlccmanncfbdkaaDoor
namespace Go.Proofs.YtlccmanncfbdkaaDoor
namespace ExP
structure Num where
  m : Bool
  n : Nat
  d : Nat
abbrev Fr := Str × Str
def signP (m : Bool) (s : Str) : Str := if m = true then 45 :: s else s
def redN (x : Num) : Nat := x.n / Nat.gcd x.n x.d
def redD (x : Num) : Nat := x.d / Nat.gcd x.n x.d
def overP (x : Num) : Prop := 300 < (Lib.decDigits (redN x)).length ∨ 300 < (Lib.decDigits (redD x)).length
instance (x : Num) : Decidable (overP x) := by unfold overP; infer_instance
def writeF (x : Num) : Fr := if x.n = 0 then ([48], [49]) else if overP x then ([], []) else (signP x.m (Lib.decDigits (redN x)), Lib.decDigits (redD x))
def writeE (x : Num) : Int := if x.n = 0 then 0 else if overP x then 19 else 0
end ExP
end Go.Proofs.YtlccmanncfbdkaaDoor
namespace Go.Proofs.YtlccmanncfbdkaaDoor.VaP
open Go.Proofs.YtlccmanncfbdkaaDoor
abbrev Str := List UInt8
/-- a byte of a text, 0 beyond its end -/
def bt (s : Str) (i : Nat) : Nat := (s.getD i 0).toNat
/-- the first character of a text and its length -/
def dec (s : Str) : Nat × Nat := Lib.decodeGo (bstr s)
theorem bt_lt (s : Str) (i : Nat) : bt s i < 256 := (s.getD i 0).toNat_lt
theorem bt_get (s : Str) (i : Nat) : ((bstr s).get! i).toNat = bt s i := by
  unfold bt bstr ByteArray.get!
  rw [List.getD_eq_getElem?_getD]
  simp [Array.getElem!_eq_getD, Array.getD_eq_getD_getElem?]
  rfl
theorem dec_eq {s : Str} (h : s ≠ []) : dec s = Lib.decodeN s.length (bt s 0) (bt s 1) (bt s 2) (bt s 3) := by
  have h1 : ¬ (bstr s).size = 0 := fun e => h (List.eq_nil_of_length_eq_zero e)
  unfold dec Lib.decodeGo
  rw [if_neg h1, Lib.decode_at, bt_get, bt_get, bt_get, bt_get]
  rfl
/-- the first character of a text; the length is 0 if there is none that is right -/
def rune (s : Str) : Nat × Nat := if dec s = (65533, 1) then (0, 0) else dec s
theorem dec_len {s : Str} (h : s ≠ []) : 1 ≤ (dec s).2 ∧ (dec s).2 ≤ s.length := by
  have h0 : 0 < s.length := List.length_pos_iff.2 h
  rw [dec_eq h]
  unfold Lib.decodeN
  repeat' split
  all_goals (dsimp only; omega)
theorem dec_lt {s : Str} (h : s ≠ []) : (dec s).1 ≤ 1114111 := by
  have := bt_lt s 0
  rw [dec_eq h]
  unfold Lib.decodeN
  repeat' split
  all_goals (dsimp only; omega)
theorem rune_bad {s : Str} (h : dec s = (65533, 1)) : rune s = (0, 0) := if_pos h
theorem rune_ok {s : Str} {c n : Nat} (h : dec s = (c, n)) (hn : (c, n) ≠ (65533, 1)) : rune s = (c, n) := by
  unfold rune; rw [if_neg (by rw [h]; exact hn), h]
theorem rune_1 {s : Str} (h : s ≠ []) (h0 : bt s 0 < 128) : rune s = (bt s 0, 1) := by
  have := dec_eq h
  refine rune_ok (by rw [this]; unfold Lib.decodeN; rw [if_pos h0]) (fun e => ?_)
  have := congrArg Prod.fst e
  dsimp only at this; omega
theorem rune_0 {s : Str} (h : s ≠ []) (h0 : 128 ≤ bt s 0) (h1 : bt s 0 < 194 ∨ 245 ≤ bt s 0) : rune s = (0, 0) := by
  apply rune_bad
  rw [dec_eq h]
  unfold Lib.decodeN
  repeat' split
  all_goals first | rfl | (exfalso; omega)
/-- a text of two bytes and more -/
theorem rune_2 {s : Str} (h : s ≠ []) (h0 : 194 ≤ bt s 0) (h1 : bt s 0 < 224) : rune s = if 1 < s.length ∧ bt s 1 / 64 = 2 then (bt s 0 % 32 * 64 + bt s 1 % 64, 2) else (0, 0) := by
  have hd := dec_eq h
  unfold Lib.decodeN at hd
  rw [if_neg (by omega)] at hd
  by_cases hc : 1 < s.length ∧ bt s 1 / 64 = 2
  · rw [if_pos hc]
    rw [if_pos ⟨by omega, hc⟩, if_pos (by omega)] at hd
    exact rune_ok hd (fun e => by have := congrArg Prod.snd e; simp at this)
  · rw [if_neg hc]
    rw [if_neg (fun h => hc h.2), if_neg (by omega), if_neg (by omega)] at hd
    exact rune_bad hd
theorem rune_3 {s : Str} (h : s ≠ []) (h0 : 224 ≤ bt s 0) (h1 : bt s 0 < 240) : rune s = if (1 < s.length ∧ bt s 1 / 64 = 2) ∧ (2 < s.length ∧ bt s 2 / 64 = 2) ∧ 2048 ≤ bt s 0 % 16 * 4096 + bt s 1 % 64 * 64 + bt s 2 % 64 ∧ (bt s 0 % 16 * 4096 + bt s 1 % 64 * 64 + bt s 2 % 64 < 55296 ∨ 57344 ≤ bt s 0 % 16 * 4096 + bt s 1 % 64 * 64 + bt s 2 % 64) then (bt s 0 % 16 * 4096 + bt s 1 % 64 * 64 + bt s 2 % 64, 3) else (0, 0) := by
  have hd := dec_eq h
  unfold Lib.decodeN at hd
  rw [if_neg (by omega), if_neg (by omega)] at hd
  by_cases hc : (1 < s.length ∧ bt s 1 / 64 = 2) ∧ (2 < s.length ∧ bt s 2 / 64 = 2)
  · rw [if_pos ⟨by omega, hc⟩] at hd
    by_cases hr : 2048 ≤ bt s 0 % 16 * 4096 + bt s 1 % 64 * 64 + bt s 2 % 64 ∧ (bt s 0 % 16 * 4096 + bt s 1 % 64 * 64 + bt s 2 % 64 < 55296 ∨ 57344 ≤ bt s 0 % 16 * 4096 + bt s 1 % 64 * 64 + bt s 2 % 64)
    · rw [if_pos ⟨hc.1, hc.2, hr⟩]
      rw [if_pos ⟨hr.1, hr.2.imp id (fun h => ⟨h, by omega⟩)⟩] at hd
      exact rune_ok hd (fun e => by have := congrArg Prod.snd e; simp at this)
    · rw [if_neg (fun h => hr h.2.2)]
      rw [if_neg (fun h => hr ⟨h.1, h.2.imp id And.left⟩)] at hd
      exact rune_bad hd
  · rw [if_neg (fun h => hc ⟨h.1, h.2.1⟩)]
    rw [if_neg (fun h => hc h.2), if_neg (by omega)] at hd
    exact rune_bad hd
theorem rune_4 {s : Str} (h : s ≠ []) (h0 : 240 ≤ bt s 0) (h1 : bt s 0 < 245) : rune s = if (1 < s.length ∧ bt s 1 / 64 = 2) ∧ (2 < s.length ∧ bt s 2 / 64 = 2) ∧ (3 < s.length ∧ bt s 3 / 64 = 2) ∧ 65536 ≤ bt s 0 % 8 * 262144 + bt s 1 % 64 * 4096 + bt s 2 % 64 * 64 + bt s 3 % 64 ∧ bt s 0 % 8 * 262144 + bt s 1 % 64 * 4096 + bt s 2 % 64 * 64 + bt s 3 % 64 ≤ 1114111 then (bt s 0 % 8 * 262144 + bt s 1 % 64 * 4096 + bt s 2 % 64 * 64 + bt s 3 % 64, 4) else (0, 0) := by
  have hd := dec_eq h
  unfold Lib.decodeN at hd
  rw [if_neg (by omega), if_neg (by omega), if_neg (by omega)] at hd
  by_cases hc : (1 < s.length ∧ bt s 1 / 64 = 2) ∧ (2 < s.length ∧ bt s 2 / 64 = 2) ∧ (3 < s.length ∧ bt s 3 / 64 = 2)
  · rw [if_pos ⟨by omega, hc⟩] at hd
    by_cases hr : 65536 ≤ bt s 0 % 8 * 262144 + bt s 1 % 64 * 4096 + bt s 2 % 64 * 64 + bt s 3 % 64 ∧ bt s 0 % 8 * 262144 + bt s 1 % 64 * 4096 + bt s 2 % 64 * 64 + bt s 3 % 64 ≤ 1114111
    · rw [if_pos ⟨hc.1, hc.2.1, hc.2.2, hr⟩]
      rw [if_pos ⟨hr.1, .inr ⟨by omega, hr.2⟩⟩] at hd
      exact rune_ok hd (fun e => by have := congrArg Prod.snd e; simp at this)
    · rw [if_neg (fun h => hr h.2.2.2)]
      rw [if_neg (fun h => hr ⟨h.1, by omega⟩)] at hd
      exact rune_bad hd
  · rw [if_neg (fun h => hc ⟨h.1, h.2.1, h.2.2.1⟩)]
    rw [if_neg (fun h => hc h.2)] at hd
    exact rune_bad hd
/-- small letters for capitals -/
def lowC (c : UInt8) : UInt8 := if 65 ≤ c ∧ c ≤ 90 then c + 32 else c
def low (s : Str) : Str := s.map lowC
/-- a value -/
structure VT where
  kind : Int
  num : ExP.Fr
  text : Str
  on : Bool
  code : Int
  rows : Int
  cols : Int
  items : List VT
end Go.Proofs.YtlccmanncfbdkaaDoor.VaP
namespace Go.Proofs.YtlccmanncfbdkaaDoor
namespace FtP
abbrev Str := List UInt8
open VaP (bt dec dec_eq dec_len bt_lt)
theorem bt_take (s : Str) (n i : Nat) : bt (s.take n) i = if i < n then bt s i else 0 := by
  unfold bt
  rw [List.getD_eq_getElem?_getD, List.getD_eq_getElem?_getD, List.getElem?_take]
  split <;> rfl
set_option maxRecDepth 10000 in
set_option maxHeartbeats 1000000 in
theorem dec_take {s : Str} (h : s ≠ []) : dec (s.take (dec s).2) = dec s := by
  have hl := dec_len h
  have hd := dec_eq h
  have hu : s.take (dec s).2 ≠ [] := fun e => by
    have := congrArg List.length e
    rw [List.length_take] at this
    simp only [List.length_nil] at this
    omega
  have hlen : (s.take (dec s).2).length = (dec s).2 := by rw [List.length_take]; omega
  rw [dec_eq hu, hlen]
  have e0 := bt_take s (dec s).2 0
  have e1 := bt_take s (dec s).2 1
  have e2 := bt_take s (dec s).2 2
  have e3 := bt_take s (dec s).2 3
  have b0 := bt_lt s 0
  have b1 := bt_lt s 1
  have b2 := bt_lt s 2
  have b3 := bt_lt s 3
  generalize bt (s.take (dec s).2) 0 = c0 at *
  generalize bt (s.take (dec s).2) 1 = c1 at *
  generalize bt (s.take (dec s).2) 2 = c2 at *
  generalize bt (s.take (dec s).2) 3 = c3 at *
  generalize bt s 0 = d0 at *
  generalize bt s 1 = d1 at *
  generalize bt s 2 = d2 at *
  generalize bt s 3 = d3 at *
  generalize dec s = q at *
  obtain ⟨v, n⟩ := q
  dsimp only at *
  clear hu hlen h
  unfold Lib.decodeN at hd
  have key : ∀ v' n', (v, n) = (v', n') → v = v' ∧ n = n' := fun v' n' e => by cases e; exact ⟨rfl, rfl⟩
  repeat' split at hd
  all_goals
    obtain ⟨rfl, rfl⟩ := key _ _ hd
    clear key hd
    try rw [if_pos (by omega)] at e0
    try (first | rw [if_pos (by omega)] at e1 | rw [if_neg (by omega)] at e1)
    try (first | rw [if_pos (by omega)] at e2 | rw [if_neg (by omega)] at e2)
    try (first | rw [if_pos (by omega)] at e3 | rw [if_neg (by omega)] at e3)
    subst e0 e1 e2 e3
    unfold Lib.decodeN
    repeat' split
    all_goals first | rfl | (exfalso; omega)
/-- the code of the first character: a byte that begins none is minus itself -/
def code (s : Str) : Int := if dec s = (65533, 1) then -(bt s 0 : Int) else ((dec s).1 : Int)
/-- one character -/
def isCh (u : Str) : Prop := u ≠ [] ∧ (dec u).2 = u.length
theorem isCh_take {s : Str} (h : s ≠ []) : isCh (s.take (dec s).2) := by
  have hl := dec_len h
  refine ⟨fun e => ?_, ?_⟩
  · have := congrArg List.length e
    rw [List.length_take] at this
    simp only [List.length_nil] at this
    omega
  · rw [dec_take h, List.length_take]; omega
theorem code_take {s : Str} (h : s ≠ []) : code (s.take (dec s).2) = code s := by
  have hl := dec_len h
  unfold code
  have e : bt (s.take (dec s).2) 0 = bt s 0 := by rw [bt_take, if_pos (by omega)]
  rw [dec_take h, e]
theorem bytes1 {u : Str} (h : u.length = 1) : u.map UInt8.toNat = [bt u 0] := by
  obtain ⟨a, rfl⟩ : ∃ a, u = [a] := by
    rcases u with _ | ⟨a, _ | ⟨b, r⟩⟩ <;> simp at h
    exact ⟨a, rfl⟩
  rfl
theorem bytes2 {u : Str} (h : u.length = 2) : u.map UInt8.toNat = [bt u 0, bt u 1] := by
  rcases u with _ | ⟨a, _ | ⟨b, _ | ⟨c, r⟩⟩⟩ <;> simp at h
  rfl
theorem bytes3 {u : Str} (h : u.length = 3) : u.map UInt8.toNat = [bt u 0, bt u 1, bt u 2] := by
  rcases u with _ | ⟨a, _ | ⟨b, _ | ⟨c, _ | ⟨d, r⟩⟩⟩⟩ <;> simp at h
  rfl
theorem bytes4 {u : Str} (h : u.length = 4) : u.map UInt8.toNat = [bt u 0, bt u 1, bt u 2, bt u 3] := by
  rcases u with _ | ⟨a, _ | ⟨b, _ | ⟨c, _ | ⟨d, _ | ⟨e, r⟩⟩⟩⟩⟩ <;> simp at h
  rfl
/-- the bytes of a character that is right -/
def encN (v : Nat) : List Nat :=
  if v < 128 then [v] else if v < 2048 then [192 + v / 64, 128 + v % 64] else if v < 65536 then [224 + v / 4096, 128 + v / 64 % 64, 128 + v % 64] else [240 + v / 262144, 128 + v / 4096 % 64, 128 + v / 64 % 64, 128 + v % 64]
theorem enc_ok {u : Str} (h : isCh u) (hv : dec u ≠ (65533, 1)) : u.map UInt8.toNat = encN (dec u).1 := by
  obtain ⟨h0, h1⟩ := h
  have hd := dec_eq h0
  have b0 := bt_lt u 0
  have b1 := bt_lt u 1
  have b2 := bt_lt u 2
  have b3 := bt_lt u 3
  have x1 := @bytes1 u
  have x2 := @bytes2 u
  have x3 := @bytes3 u
  have x4 := @bytes4 u
  generalize bt u 0 = d0 at *
  generalize bt u 1 = d1 at *
  generalize bt u 2 = d2 at *
  generalize bt u 3 = d3 at *
  generalize dec u = q at *
  obtain ⟨v, n⟩ := q
  dsimp only at *
  unfold Lib.decodeN at hd
  have key : ∀ v' n', (v, n) = (v', n') → v = v' ∧ n = n' := fun v' n' e => by cases e; exact ⟨rfl, rfl⟩
  unfold encN
  repeat' split at hd
  all_goals
    obtain ⟨hv', hn'⟩ := key _ _ hd
    try exact absurd hd hv
  · rw [x1 (by omega)]
    repeat' split
    all_goals first | (exfalso; omega) | (simp only [List.cons.injEq, and_true]; omega)
  · rw [x2 (by omega)]
    repeat' split
    all_goals first | (exfalso; omega) | (simp only [List.cons.injEq, and_true]; omega)
  · rw [x3 (by omega)]
    repeat' split
    all_goals first | (exfalso; omega) | (simp only [List.cons.injEq, and_true]; omega)
  · rw [x4 (by omega)]
    repeat' split
    all_goals first | (exfalso; omega) | (simp only [List.cons.injEq, and_true]; omega)
theorem dec_ascii {s : Str} (h : s ≠ []) (h0 : bt s 0 < 128) : dec s = (bt s 0, 1) := by
  rw [dec_eq h]; unfold Lib.decodeN; rw [if_pos h0]
theorem bad_high {s : Str} (h : s ≠ []) (hb : dec s = (65533, 1)) : 128 ≤ bt s 0 := by
  rcases Nat.lt_or_ge (bt s 0) 128 with h0 | h0
  · rw [dec_ascii h h0] at hb
    have := congrArg Prod.fst hb
    dsimp only at this
    omega
  · exact h0
theorem map_inj {u v : Str} (h : u.map UInt8.toNat = v.map UInt8.toNat) : u = v :=
  (List.map_inj_right (fun _ _ e => UInt8.toNat_inj.1 e)).1 h
theorem code_inj {u v : Str} (hu : isCh u) (hv : isCh v) (h : code u = code v) : u = v := by
  unfold code at h
  by_cases h1 : dec u = (65533, 1)
  · have k1 := bad_high hu.1 h1
    rw [if_pos h1] at h
    by_cases h2 : dec v = (65533, 1)
    · rw [if_pos h2] at h
      have l1 : u.length = 1 := by rw [← hu.2, h1]
      have l2 : v.length = 1 := by rw [← hv.2, h2]
      apply map_inj
      rw [bytes1 l1, bytes1 l2]
      have : bt u 0 = bt v 0 := by omega
      rw [this]
    · rw [if_neg h2] at h
      omega
  · rw [if_neg h1] at h
    by_cases h2 : dec v = (65533, 1)
    · have k2 := bad_high hv.1 h2
      rw [if_pos h2] at h
      omega
    · rw [if_neg h2] at h
      apply map_inj
      rw [enc_ok hu h1, enc_ok hv h2]
      have : (dec u).1 = (dec v).1 := by omega
      rw [this]
theorem code_iff {u v : Str} (hu : isCh u) (hv : isCh v) : code u = code v ↔ u = v := ⟨code_inj hu hv, fun h => by rw [h]⟩
theorem isCh_one {b : UInt8} (h : b.toNat < 128) : isCh [b] := ⟨by simp, by rw [dec_ascii (s := [b]) (by simp) h]; rfl⟩
theorem code_one {b : UInt8} (h : b.toNat < 128) : code [b] = (b.toNat : Int) := by
  unfold code
  rw [dec_ascii (s := [b]) (by simp) h, if_neg (fun e => by have := congrArg Prod.fst e; dsimp only at this; change b.toNat = 65533 at this; omega)]
  rfl
/-- the characters of a text -/
def chF : Nat → Str → List Str
  | 0, _ => []
  | n + 1, s => if s = [] then [] else s.take (dec s).2 :: chF n (s.drop (dec s).2)
def chars (s : Str) : List Str := chF s.length s
theorem chF_more : ∀ (n m : Nat) (s : Str), s.length ≤ n → n ≤ m → chF m s = chF n s
  | 0, m, s, h, _ => by
    have : s = [] := List.eq_nil_of_length_eq_zero (by omega)
    subst this
    cases m with
    | zero => rfl
    | succ m => simp [chF]
  | n + 1, 0, s, _, h => by omega
  | n + 1, m + 1, s, h, hm => by
    unfold chF
    by_cases hs : s = []
    · rw [if_pos hs, if_pos hs]
    · rw [if_neg hs, if_neg hs]
      have := dec_len hs
      rw [chF_more n m (s.drop (dec s).2) (by rw [List.length_drop]; omega) (by omega)]
theorem chars_nil : chars [] = [] := rfl
theorem chars_step {s : Str} (hs : s ≠ []) : chars s = s.take (dec s).2 :: chars (s.drop (dec s).2) := by
  have h0 : 0 < s.length := List.length_pos_iff.2 hs
  have hd := dec_len hs
  unfold chars
  obtain ⟨n, hn⟩ : ∃ n, s.length = n + 1 := ⟨s.length - 1, by omega⟩
  rw [hn]
  show (if s = [] then [] else _) = _
  rw [if_neg hs, chF_more (s.drop (dec s).2).length n _ (Nat.le_refl _) (by rw [List.length_drop]; omega)]
theorem chars_len : ∀ (n : Nat) (s : Str), s.length ≤ n → (chars s).length ≤ s.length
  | 0, s, h => by
    have : s = [] := List.eq_nil_of_length_eq_zero (by omega)
    subst this; exact Nat.le_refl _
  | n + 1, s, h => by
    by_cases hs : s = []
    · subst hs; exact Nat.le_refl _
    · have hd := dec_len hs
      have := chars_len n (s.drop (dec s).2) (by rw [List.length_drop]; omega)
      rw [chars_step hs, List.length_cons]
      rw [List.length_drop] at this
      omega
theorem chars_ch : ∀ (n : Nat) (s : Str), s.length ≤ n → ∀ u ∈ chars s, isCh u
  | 0, s, h => by
    have : s = [] := List.eq_nil_of_length_eq_zero (by omega)
    subst this; intro u hu; cases hu
  | n + 1, s, h => by
    by_cases hs : s = []
    · subst hs; intro u hu; cases hu
    · have hd := dec_len hs
      intro u hu
      rw [chars_step hs] at hu
      rcases List.mem_cons.1 hu with rfl | hu
      · exact isCh_take hs
      · exact chars_ch n _ (by rw [List.length_drop]; omega) u hu
theorem chars_ascii {s : Str} {b : UInt8} (hb : b.toNat < 128) : chars (b :: s) = [b] :: chars s := by
  rw [chars_step (by simp), dec_ascii (s := b :: s) (by simp) hb]
  rfl
end FtP
end Go.Proofs.YtlccmanncfbdkaaDoor
namespace Go.Proofs.YtlccmanncfbdkaaDoor
namespace FtP
/-- a part of a pattern -/
inductive Pc where
  | one
  | many
  | ch (u : Str)
def Pc.isMany : Pc → Bool
  | .many => true
  | _ => false
/-- the part takes one character -/
def Pc.fits : Pc → Str → Bool
  | .one, _ => true
  | .many, _ => false
  | .ch u, c => decide (u = c)
def pc1 (u : Str) : Pc := if u = [63] then .one else if u = [42] then .many else .ch u
def esc (v : Str) : Bool := decide (v = [63]) || decide (v = [42]) || decide (v = [126])
/-- the parts of a pattern -/
def pcs : List Str → List Pc
  | [] => []
  | [u] => [pc1 u]
  | u :: v :: r => if u = [126] ∧ esc v = true then .ch v :: pcs r else pc1 u :: pcs (v :: r)
def manyAt (l : List Pc) (k : Nat) : Bool := match l[k]? with
  | some p => p.isMany
  | none => false
def fitsAt (l : List Pc) (k : Nat) (c : Str) : Bool := match l[k]? with
  | some p => p.fits c
  | none => false
def fitsC (l : List Pc) (cs : List Str) (k i : Nat) : Bool := match cs[i]? with
  | some c => fitsAt l k c
  | none => false
/-- some number up to i -/
def upto (f : Nat → Bool) : Nat → Bool
  | 0 => f 0
  | i + 1 => upto f i || f (i + 1)
/-- k parts take i characters -/
def S (l : List Pc) (cs : List Str) : Nat → Nat → Bool
  | 0, i => i == 0
  | k + 1, i => if manyAt l k then upto (S l cs k) i else match i with
    | 0 => false
    | j + 1 => S l cs k j && fitsC l cs k j
def matchP (l : List Pc) (cs : List Str) : Bool := S l cs l.length cs.length
/-- the places behind i characters -/
def can (l : List Pc) (cs : List Str) (i k : Nat) : Bool := S l cs k i || (manyAt l k && upto (S l cs k) i)
theorem manyAt_ge {l : List Pc} {k : Nat} (h : l.length ≤ k) : manyAt l k = false := by
  unfold manyAt; rw [List.getElem?_eq_none h]
theorem fitsAt_ge {l : List Pc} {k : Nat} {c : Str} (h : l.length ≤ k) : fitsAt l k c = false := by
  unfold fitsAt; rw [List.getElem?_eq_none h]
theorem fitsC_ge {l : List Pc} {cs : List Str} {k i : Nat} (h : l.length ≤ k) : fitsC l cs k i = false := by
  unfold fitsC
  split
  · exact fitsAt_ge h
  · rfl
theorem fits_many {l : List Pc} {k : Nat} {c : Str} (h : manyAt l k = true) : fitsAt l k c = false := by
  unfold manyAt at h
  unfold fitsAt
  split
  · rename_i p hp
    rw [hp] at h
    cases p <;> simp_all [Pc.isMany, Pc.fits]
  · rfl
theorem S_far {l : List Pc} {cs : List Str} : ∀ k i, l.length < k → S l cs k i = false
  | 0, i, h => by omega
  | k + 1, i, h => by
    unfold S
    rw [manyAt_ge (by omega)]
    simp only [Bool.false_eq_true, if_false]
    cases i with
    | zero => rfl
    | succ j => simp [fitsC_ge (l := l) (cs := cs) (k := k) (i := j) (by omega)]
theorem can_far {l : List Pc} {cs : List Str} {i k : Nat} (h : l.length < k) : can l cs i k = false := by
  unfold can; rw [S_far k i h, manyAt_ge (by omega)]; rfl
/-- one step of the set: what comes ahead of the places behind sequences -/
def nxt (l : List Pc) (C : Nat → Bool) (c : Str) (j : Nat) : Bool := (C j && manyAt l j) || (match j with
  | 0 => false
  | k + 1 => C k && fitsAt l k c)
/-- places behind sequences: so many looked at -/
def clS (l : List Pc) (C : Nat → Bool) : Nat → Nat → Bool
  | 0, j => C j
  | n + 1, j => if clS l C n n && manyAt l n then decide (j = n + 1) || clS l C n j else clS l C n j
def fin (l : List Pc) (C : Nat → Bool) : Nat → Bool
  | 0 => C 0
  | j + 1 => C (j + 1) || (fin l C j && manyAt l j)
theorem clS_fin (l : List Pc) (C : Nat → Bool) : ∀ n j, clS l C n j = if j ≤ n then fin l C j else C j
  | 0, j => by
    unfold clS
    split
    · obtain rfl : j = 0 := by omega
      rfl
    · rfl
  | n + 1, j => by
    have h1 := clS_fin l C n j
    have h2 := clS_fin l C n n
    rw [if_pos (Nat.le_refl n)] at h2
    have e0 : clS l C (n + 1) j = if clS l C n n && manyAt l n then decide (j = n + 1) || clS l C n j else clS l C n j := rfl
    rw [e0, h2]
    by_cases e : j = n + 1
    · subst e
      have h1' : clS l C n (n + 1) = C (n + 1) := by rw [h1, if_neg (by omega)]
      rw [h1', if_pos (Nat.le_refl (n + 1))]
      show _ = (C (n + 1) || (fin l C n && manyAt l n))
      cases hb : (fin l C n && manyAt l n) <;> simp
    · by_cases e2 : j ≤ n
      · have h1' : clS l C n j = fin l C j := by rw [h1, if_pos e2]
        rw [h1', if_pos (show j ≤ n + 1 by omega)]
        split <;> simp [e]
      · have h1' : clS l C n j = C j := by rw [h1, if_neg e2]
        rw [h1', if_neg (show ¬ j ≤ n + 1 by omega)]
        split <;> simp [e]
theorem upto_mono {f : Nat → Bool} {i : Nat} (h : f i = true) : upto f i = true := by
  cases i with
  | zero => exact h
  | succ i => unfold upto; rw [h]; simp
theorem upto_succ (f : Nat → Bool) (i : Nat) : upto f (i + 1) = (upto f i || f (i + 1)) := rfl
theorem fin_can {l : List Pc} {cs : List Str} {i : Nat} {c : Str} (hc : cs[i]? = some c) : ∀ j, fin l (nxt l (can l cs i) c) j = can l cs (i + 1) j
  | 0 => by
    unfold fin nxt can
    rw [upto_succ]
    have e : ∀ q, S l cs 0 q = (q == 0) := fun q => rfl
    have eu : ∀ q, upto (S l cs 0) q = true := by
      intro q
      induction q with
      | zero => rfl
      | succ q ih => rw [upto_succ, ih]; rfl
    rw [eu, e, e]
    cases manyAt l 0 <;> simp
  | k + 1 => by
    have ih := fin_can hc k (l := l)
    unfold fin
    rw [ih]
    have hf : fitsC l cs k i = fitsAt l k c := by unfold fitsC; rw [hc]
    have hS : S l cs (k + 1) (i + 1) = if manyAt l k then upto (S l cs k) (i + 1) else S l cs k i && fitsAt l k c := by
      rw [← hf]; rfl
    unfold nxt can
    rw [hS]
    simp only [upto_succ]
    by_cases hm : manyAt l k = true
    · rw [hm, fits_many hm]
      simp only [if_true, Bool.and_false, Bool.or_false, Bool.true_and, Bool.and_true]
      have hu := upto_mono (f := S l cs (k + 1)) (i := i)
      have hSi : S l cs (k + 1) i = upto (S l cs k) i := by
        conv => lhs; unfold S
        rw [hm]; rfl
      have hS1 : S l cs (k + 1) (i + 1) = (upto (S l cs k) i || S l cs k (i + 1)) := by
        rw [hS, hm]; rfl
      rw [hS1]
      cases manyAt l (k + 1) <;> cases h1 : S l cs (k + 1) i <;> cases h2 : upto (S l cs (k + 1)) i <;> cases h3 : upto (S l cs k) i <;> cases h4 : S l cs k (i + 1) <;> simp_all
    · have hm : manyAt l k = false := by simpa using hm
      rw [hm]
      have hS1 : S l cs (k + 1) (i + 1) = (S l cs k i && fitsAt l k c) := by
        rw [hS, hm]; rfl
      rw [hS1]
      have hu := upto_mono (f := S l cs (k + 1)) (i := i)
      cases manyAt l (k + 1) <;> cases h1 : S l cs (k + 1) i <;> cases h2 : upto (S l cs (k + 1)) i <;> cases h3 : S l cs k i <;> cases h4 : fitsAt l k c <;> simp_all
theorem fin_zero {l : List Pc} {cs : List Str} : ∀ j, fin l (fun j => decide (j = 0)) j = can l cs 0 j
  | 0 => by unfold fin can; simp [S]
  | k + 1 => by
    unfold fin
    rw [fin_zero k (cs := cs)]
    unfold can
    show _ = (S l cs (k + 1) 0 || (manyAt l (k + 1) && S l cs (k + 1) 0))
    have e : S l cs (k + 1) 0 = (manyAt l k && S l cs k 0) := by
      conv => lhs; unfold S
      cases manyAt l k <;> rfl
    rw [e]
    show (decide (k + 1 = 0) || ((S l cs k 0 || (manyAt l k && S l cs k 0)) && manyAt l k)) = _
    cases manyAt l k <;> cases manyAt l (k + 1) <;> cases S l cs k 0 <;> simp
/-- the set behind a character -/
theorem can_step {l : List Pc} {cs : List Str} {i : Nat} {c : Str} (hc : cs[i]? = some c) : clS l (nxt l (can l cs i) c) l.length = can l cs (i + 1) := by
  funext j
  rw [clS_fin]
  split
  · exact fin_can hc j
  · rename_i h
    rw [can_far (by omega)]
    unfold nxt
    rw [manyAt_ge (by omega)]
    cases j with
    | zero => omega
    | succ k => simp [fitsAt_ge (l := l) (k := k) (c := c) (by omega)]
theorem can_start {l : List Pc} {cs : List Str} : clS l (fun j => decide (j = 0)) l.length = can l cs 0 := by
  funext j
  rw [clS_fin]
  split
  · exact fin_zero j
  · rename_i h
    rw [can_far (by omega)]
    simp; omega
theorem can_end {l : List Pc} {cs : List Str} (i : Nat) : can l cs i l.length = S l cs l.length i := by
  unfold can; rw [manyAt_ge (Nat.le_refl _)]; simp
theorem can_none {l : List Pc} {cs : List Str} {i : Nat} (h : ∀ k, can l cs i k = false) : ∀ d, i + d ≤ cs.length → ∀ k, can l cs (i + d) k = false
  | 0, _ => h
  | d + 1, hd => by
    have ih := can_none h d (by omega)
    have hc : cs[i + d]? = some cs[i + d] := List.getElem?_eq_getElem (by omega)
    intro k
    have := congrFun (can_step (l := l) hc) k
    rw [show i + (d + 1) = i + d + 1 by omega, ← this, clS_fin]
    have hn : ∀ j, nxt l (can l cs (i + d)) cs[i + d] j = false := fun j => by
      unfold nxt
      rw [ih]
      cases j with
      | zero => rfl
      | succ q =>
        show (_ || (can l cs (i + d) q && _)) = false
        rw [ih q]; rfl
    have hf : ∀ j, fin l (nxt l (can l cs (i + d)) cs[i + d]) j = false := fun j => by
      induction j with
      | zero => exact hn 0
      | succ q iq => unfold fin; rw [hn, iq]; rfl
    split
    · exact hf k
    · exact hn k
theorem match_none {l : List Pc} {cs : List Str} {i : Nat} (hi : i ≤ cs.length) (h : ∀ k, can l cs i k = false) : matchP l cs = false := by
  have := can_none h (cs.length - i) (by omega) l.length
  rw [show i + (cs.length - i) = cs.length by omega, can_end] at this
  exact this
/-- parts from k on -/
theorem S_many {l : List Pc} {cs : List Str} {k i : Nat} (h : manyAt l k = true) : S l cs (k + 1) i = upto (S l cs k) i := by
  conv => lhs; unfold S
  rw [h]; rfl
theorem S_ch0 {l : List Pc} {cs : List Str} {k : Nat} (h : manyAt l k = false) : S l cs (k + 1) 0 = false := by
  conv => lhs; unfold S
  rw [h]; rfl
theorem S_ch {l : List Pc} {cs : List Str} {k i : Nat} (h : manyAt l k = false) : S l cs (k + 1) (i + 1) = (S l cs k i && fitsC l cs k i) := by
  conv => lhs; unfold S
  rw [h]; rfl
end FtP
end Go.Proofs.YtlccmanncfbdkaaDoor
namespace Go.Proofs.YtlccmanncfbdkaaDoor
open Go.RowKit
end Go.Proofs.YtlccmanncfbdkaaDoor
