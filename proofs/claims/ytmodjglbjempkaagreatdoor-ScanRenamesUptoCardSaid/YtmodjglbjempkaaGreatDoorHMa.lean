/- Blocks of cells and what keeps them: words for the contracts' worlds. A whole block stored cell by cell. Strings as lists of bytes: words for the contracts. Bits of int. Equality of structs, field by field. -/
import Derived.WalkKit
import Derived.Lib.Hide
import Derived.Handy
import Derived.WalkSmall
import Derived.BigQuiet
import Derived.Deep.QuietTactic
import Derived.Laws.CopyOwn
import Derived.Test.YtmodjglbjempkaaGreatDoorRows
import Derived.WalkLawsBesides
import Derived.Deep.CutBlock
import Derived.Deep.DeepCutAuto
import Derived.OwnWalk
import Derived.Shelf.Abstract
import Derived.Laws.BitsLemmas
import Derived.Laws.BitsAllLaws
import Derived.ChangeKeysEq
set_option linter.unusedSimpArgs false
set_option linter.unusedVariables false
namespace Go.Proofs.YtmodjglbjempkaaGreatDoor
open Go.RowKit
/-- a fact kept from the walk: a structure, so that nothing unfolds it -/
structure Bx (p : Prop) : Prop where
  out : p
/-- block b holds the cells cs, written freely -/
def Row (w : World) (b : Nat) (t : TypeId) (cs : Array Value) : Prop := w.heap[b]? = some (.cells cs t (0, 0))
theorem Row.cell {w : World} {b : Nat} {t : TypeId} {cs : Array Value} (h : Row w b t cs) (j : Nat) : w.cell? ⟨b, j, none⟩ = cs[j]? := cell_of_row _ _ _ _ _ _ h
theorem Row.frozen {w : World} {b : Nat} {t : TypeId} {cs : Array Value} (h : Row w b t cs) (j : Nat) : w.frozen? ⟨b, j, none⟩ = false := frozen_of_row _ _ _ _ _ h
theorem Row.lt {w : World} {b : Nat} {t : TypeId} {cs : Array Value} (h : Row w b t cs) : b < w.heap.size := by
  unfold Row at h
  rcases Nat.lt_or_ge b w.heap.size with h' | h'
  · exact h'
  · rw [Array.getElem?_eq_none h'] at h; cases h
theorem Row.set {w : World} {b : Nat} {t : TypeId} {cs : Array Value} (h : Row w b t cs) (j : Nat) (v : Value) : Row (w.setCell ⟨b, j, none⟩ v) b t (cs.setIfInBounds j v) := heap_setCell_same _ _ _ _ _ _ h
theorem Row.other {w : World} {b : Nat} {t : TypeId} {cs : Array Value} (h : Row w b t cs) {a : Addr} (ha : a.block ≠ b) (v : Value) : Row (w.setCell a v) b t cs := by
  unfold Row
  rw [heap_setCell_other _ _ _ _ (fun e => ha e.symm)]; exact h
theorem Row.drew {w : World} {b : Nat} {t : TypeId} {cs : Array Value} (h : Row w b t cs) : Row w.drew b t cs := h
theorem Row.drewN {w : World} {b : Nat} {t : TypeId} {cs : Array Value} (h : Row w b t cs) (n : Nat) : Row (w.drewN n) b t cs := h
theorem Row.alloc {w : World} {b : Nat} {t : TypeId} {cs : Array Value} (h : Row w b t cs) (o : Obj) : Row (w.alloc o) b t cs := by
  unfold Row
  rw [Below.heap_alloc _ _ _ h.lt]; exact h
theorem Row.new (w : World) (t : TypeId) (cs : Array Value) : Row (w.alloc (.cells cs t)) w.heap.size t cs := heap_alloc_new _ _
theorem Row.below {w w' : World} {B b : Nat} {t : TypeId} {cs : Array Value} (h : Row w b t cs) (hb : Below B w w') (hB : b < B) : Row w' b t cs := by
  unfold Row
  rw [hb.block b hB]; exact h
theorem Row.same {w : World} {b : Nat} {t : TypeId} {cs cs' : Array Value} (h : Row w b t cs) (e : cs = cs') : Row w b t cs' := e ▸ h

/-- w' is w with new blocks; of the old ones only those in S may have turned -/
structure Keep (S : Nat → Prop) (w w' : World) : Prop where
  os : w'.os = w.os
  tape : w'.tape = w.tape
  output : w'.output = w.output
  size : w.heap.size ≤ w'.heap.size
  block : ∀ k, k < w.heap.size → ¬ S k → w'.heap[k]? = w.heap[k]?
theorem Keep.refl (S : Nat → Prop) (w : World) : Keep S w w := ⟨rfl, rfl, rfl, Nat.le_refl _, fun _ _ _ => rfl⟩
theorem Keep.trans {S : Nat → Prop} {a b c : World} (h : Keep S a b) (k : Keep S b c) : Keep S a c :=
  ⟨k.os.trans h.os, k.tape.trans h.tape, k.output.trans h.output, Nat.le_trans h.size k.size, fun i hi hs => (k.block i (Nat.lt_of_lt_of_le hi h.size) hs).trans (h.block i hi hs)⟩
theorem Keep.mono {S T : Nat → Prop} {w w' : World} (h : Keep S w w') (hs : ∀ k, k < w.heap.size → S k → T k) : Keep T w w' :=
  ⟨h.os, h.tape, h.output, h.size, fun k hk ht => h.block k hk (fun s => ht (hs k hk s))⟩
theorem Keep.drew {S : Nat → Prop} {a w : World} (h : Keep S a w) : Keep S a w.drew := ⟨h.os, h.tape, h.output, h.size, h.block⟩
theorem Keep.drewN {S : Nat → Prop} {a w : World} (h : Keep S a w) (n : Nat) : Keep S a (w.drewN n) := ⟨h.os, h.tape, h.output, h.size, h.block⟩
theorem Keep.alloc {S : Nat → Prop} {a w : World} (h : Keep S a w) (o : Obj) : Keep S a (w.alloc o) :=
  ⟨h.os, h.tape, h.output, by have := h.size; simp; omega, fun k hk hs => (Below.heap_alloc w o k (Nat.lt_of_lt_of_le hk h.size)).trans (h.block k hk hs)⟩
theorem Keep.setCell {S : Nat → Prop} {a w : World} (h : Keep S a w) {p : Addr} (hp : p.block < a.heap.size → S p.block) (u : Value) : Keep S a (w.setCell p u) :=
  ⟨h.os, h.tape, h.output, by have := h.size; simp [World.setCell]; omega, fun k hk hs => by
    rw [Below.heap_setCell _ _ _ _ (fun e => hs (by subst e; exact hp hk))]; exact h.block k hk hs⟩
theorem Keep.below {S : Nat → Prop} {w w' : World} (h : Keep S w w') {B : Nat} (hB : B ≤ w.heap.size) (hS : ∀ k, k < B → ¬ S k) : Below B w w' :=
  ⟨h.os, h.tape, h.output, h.size, fun k hk => h.block k (Nat.lt_of_lt_of_le hk hB) (hS k hk)⟩
theorem Keep.row {S : Nat → Prop} {w w' : World} (h : Keep S w w') {b : Nat} {t : TypeId} {cs : Array Value} (hr : Row w b t cs) (hS : ¬ S b) : Row w' b t cs := by
  unfold Row
  rw [h.block b hr.lt hS]; exact hr
theorem Keep.ofBelow {w w' : World} {B : Nat} (h : Below B w w') {S : Nat → Prop} (hS : ∀ k, k < w.heap.size → ¬ S k → k < B) : Keep S w w' :=
  ⟨h.os, h.tape, h.output, h.size, fun k hk hs => h.block k (hS k hk hs)⟩
theorem cell1 (w : World) (x : Value) (t : TypeId) : ∀ j u, [x][j]? = some u → (w.alloc (.cells #[x] t)).cell? ((⟨w.heap.size, 0, none⟩ : Addr).add j) = some u := by
  intro j u h
  match j with
  | 0 =>
    have e : u = x := by simpa using h.symm
    subst e
    simp [Addr.add]
  | j + 1 => simp at h
theorem grown_cell {w w1 : World} {o : Obj} {r : Option Nat} (hg : (w.alloc o).grownBy w1 r) {b : Nat} (hb : b < w.heap.size) (hr : r ≠ some b) (i : Nat) : w1.cell? ⟨b, i, none⟩ = w.cell? ⟨b, i, none⟩ :=
  World.cell?_of_block (w := w) ((hg.block b (by simp; omega) (fun e => hr e.symm)).trans (Below.heap_alloc _ _ _ hb))
theorem grown_frozen {w w1 : World} {o : Obj} {r : Option Nat} (hg : (w.alloc o).grownBy w1 r) {b : Nat} (hb : b < w.heap.size) (hr : r ≠ some b) (i : Nat) : w1.frozen? ⟨b, i, none⟩ = w.frozen? ⟨b, i, none⟩ :=
  World.frozen?_of_block (w := w) ((hg.block b (by simp; omega) (fun e => hr e.symm)).trans (Below.heap_alloc _ _ _ hb))
/-- an owned row of one-cell elements, read: its block, and each cell -/
theorem owns_read {w : World} {base : Nat} {e : TypeId} {n : Nat} {v : Value} {xs : List Value} (h : w.ownsRow base e 1 v n xs) (hn : 0 < n) :
    ∃ g cap, v = .slice (some ⟨g, 0, none⟩) n cap ∧ base ≤ g ∧ n ≤ cap ∧ (∀ j, j < n → w.cell? ⟨g, j, none⟩ = xs[j]?) ∧ (∀ j, w.frozen? ⟨g, j, none⟩ = false) := by
  rcases h.2 with ⟨_, h2⟩ | ⟨g, cap, cur, h1, hb, hg, hc, _, hs, ht⟩
  · omega
  · refine ⟨g, cap, h1, hb, hc, fun j hj => ?_, fun j => frozen_of_row _ _ _ _ _ hg⟩
    rw [cell_of_row _ _ _ _ _ _ hg, ← ht, List.getElem?_take, if_pos (by omega), Array.getElem?_toList]
def lenOf : Value → Nat | .slice _ n _ => n | _ => 0
def bvals (l : List UInt8) : List Value := l.map fun b => Value.int .u8 (b.toNat : Int)
theorem bvals_append (a b : List UInt8) : bvals (a ++ b) = bvals a ++ bvals b := by simp [bvals]
theorem bvals_one (b : UInt8) : bvals [b] = [.int .u8 (b.toNat : Int)] := rfl
theorem owns_keep {S : Nat → Prop} {w w' : World} {base : Nat} {e : TypeId} {size n : Nat} {v : Value} {xs : List Value} (h : w.ownsRow base e size v n xs) (k : Keep S w w') (hS : ∀ j, v.ownBlock = some j → ¬ S j) : w'.ownsRow base e size v n xs := by
  obtain ⟨h4, h5⟩ := h
  refine ⟨h4, ?_⟩
  rcases h5 with h5 | ⟨g, cap, cur, hv, hb, hg, r⟩
  · exact .inl h5
  · refine .inr ⟨g, cap, cur, hv, hb, ?_, r⟩
    exact k.row (b := g) (t := e) (cs := cur) hg (hS g (by rw [hv]; rfl))
theorem owns_below {w : World} {base : Nat} {e : TypeId} {size n : Nat} {v : Value} {xs : List Value} (h : w.ownsRow base e size v n xs) : ∀ k, v.ownBlock = some k → base ≤ k := by
  intro k hk
  rcases h.2 with ⟨h1, _⟩ | ⟨g, cap, cur, h1, hb, _⟩
  · subst h1; cases hk
  · subst h1; cases hk; exact hb
theorem keep_grown {S : Nat → Prop} {a w w' : World} {r : Option Nat} (h : Keep S a w) (o : Obj) (hg : (w.alloc o).grownBy w' r) (hr : ∀ k, r = some k → a.heap.size ≤ k) : Keep S a w' :=
  ⟨hg.os.trans h.os, hg.tape.trans h.tape, hg.output.trans h.output, by have := hg.size; have := h.size; simp at *; omega, fun k hk hs => by
    have hk2 := Nat.lt_of_lt_of_le hk h.size
    rw [hg.block k (by simp; omega) (fun e => by have := hr k e.symm; omega), Below.heap_alloc _ _ _ hk2]
    exact h.block k hk hs⟩
/-- an owned row of bytes, turned into a string -/
theorem owned_string {P : Program} {w : World} {base : Nat} {src dst e : TypeId} {v : Value} {l : List UInt8} (hs : P.underlying src = some (.slice e)) (he : P.underlying e = some (.int .u8)) (hd : P.underlying dst = some .string)
    (h : w.ownsRow base e 1 v l.length (bvals l)) : (convert src dst v).run P w = .ok (.string ⟨l.toArray⟩) w := by
  rcases Nat.eq_zero_or_pos l.length with h0 | h0
  · have hl : l = [] := List.length_eq_zero_iff.1 h0
    subst hl
    rcases h.2 with ⟨h1, _⟩ | ⟨g, cap, cur, h1, _⟩
    · subst h1; exact run_convert_bytes_nil w src e hs he 0 0 dst hd
    · subst h1; exact run_convert_bytes_back w src dst e ⟨g, 0, none⟩ cap [] hs he hd (fun j hj => by simp at hj)
  · obtain ⟨g, cap, hv, _, _, hc, _⟩ := owns_read h h0
    subst hv
    refine run_convert_bytes_back w src dst e ⟨g, 0, none⟩ cap l hs he hd (fun j hj => ?_)
    have ha : (⟨g, 0, none⟩ : Addr).add j = ⟨g, j, none⟩ := by unfold Addr.add; split <;> simp_all
    rw [ha, hc j hj]
    simp [bvals, hj]
theorem Row.grown {w w1 : World} {o : Obj} {r : Option Nat} {b : Nat} {t : TypeId} {cs : Array Value} (h : Row w b t cs) (hg : (w.alloc o).grownBy w1 r) (hr : r ≠ some b) : Row w1 b t cs := by
  unfold Row
  rw [hg.block b (by have := h.lt; simp; omega) (fun e => hr e.symm)]
  exact h.alloc o
theorem owns_nil (w : World) (base : Nat) (e : TypeId) (size : Nat) : w.ownsRow base e size (.slice none 0 0) 0 [] := ⟨by simp, .inl ⟨rfl, rfl⟩⟩
theorem owns_slice {w : World} {base : Nat} {e : TypeId} {size n : Nat} {v : Value} {xs : List Value} (h : w.ownsRow base e size v n xs) : ∃ a c, v = .slice a n c := by
  rcases h.2 with ⟨h1, h2⟩ | ⟨g, cap, cur, h1, _⟩
  · subst h2; exact ⟨_, _, h1⟩
  · exact ⟨_, _, h1⟩
end Go.Proofs.YtmodjglbjempkaaGreatDoor
namespace Go.Proofs.YtmodjglbjempkaaGreatDoor
open Go.RowKit
/-- the cells from i on, stored one by one -/
def setAll (w : World) (b : Nat) : Nat → List Value → World
  | _, [] => w
  | i, v :: r => setAll (w.setCell ⟨b, i, none⟩ v) b (i + 1) r
theorem Row.setAll' {b : Nat} {t : TypeId} : ∀ (vs : List Value) (i : Nat) (w : World) (cs : Array Value), Row w b t cs → i + vs.length = cs.size → Row (setAll w b i vs) b t (cs.toList.take i ++ vs).toArray
  | [], i, w, cs, h, e => by
    have : (cs.toList.take i ++ []).toArray = cs := by
      rw [List.append_nil, List.take_of_length_le (by simp at e; simp; omega)]
    rw [this]; exact h
  | v :: r, i, w, cs, h, e => by
    have h2 := Row.setAll' r (i + 1) (w.setCell ⟨b, i, none⟩ v) _ (h.set i v) (by simp at e ⊢; omega)
    have hi : i < cs.toList.length := by simp at e ⊢; omega
    have : ((cs.setIfInBounds i v).toList.take (i + 1) ++ r) = (cs.toList.take i ++ v :: r) := by
      rw [Array.toList_setIfInBounds, List.take_set, List.take_succ_eq_append_getElem hi, List.set_append_right _ _ (by simp; omega)]
      simp [Nat.min_eq_left (Nat.le_of_lt hi)]
      rw [Nat.min_eq_left (by simp at hi; omega)]; simp
    rw [this] at h2
    exact h2
theorem Row.setAll {b : Nat} {t : TypeId} {w : World} {cs : Array Value} (h : Row w b t cs) (vs : List Value) (e : vs.length = cs.size) : Row (setAll w b 0 vs) b t vs.toArray := by
  have := Row.setAll' vs 0 w cs h (by omega)
  simpa using this
theorem Row.otherAll {b : Nat} {t : TypeId} {c : Nat} {cs : Array Value} (hc : c ≠ b) : ∀ (vs : List Value) (i : Nat) (w : World), Row w c t cs → Row (Go.Proofs.YtmodjglbjempkaaGreatDoor.setAll w b i vs) c t cs
  | [], _, _, h => h
  | v :: r, i, w, h => Row.otherAll hc r (i + 1) _ (h.other (by dsimp only; omega) v)
theorem Below.setAllB {B b : Nat} (hb : B ≤ b) {a : World} : ∀ (vs : List Value) (i : Nat) (w : World), Below B a w → Below B a (Go.Proofs.YtmodjglbjempkaaGreatDoor.setAll w b i vs)
  | [], _, _, h => h
  | v :: r, i, w, h => Below.setAllB hb r (i + 1) _ (h.setCell hb v)
end Go.Proofs.YtmodjglbjempkaaGreatDoor
namespace Go.Proofs.YtmodjglbjempkaaGreatDoor
open Go.RowKit
def bstr (l : List UInt8) : ByteArray := ⟨l.toArray⟩
theorem bstr_of (s : ByteArray) : ∃ l, s = bstr l := ⟨s.data.toList, rfl⟩
theorem bstr_list (l : List UInt8) : (bstr l).toList = l := by unfold bstr; rw [ByteArray.toList_mk]
theorem bstr_emp (l : List UInt8) : (bstr l).toList.isEmpty = l.isEmpty := by rw [bstr_list]
theorem bstr_size (l : List UInt8) : (bstr l).size = l.length := rfl
theorem bstr_app (a b : List UInt8) : bstr a ++ bstr b = bstr (a ++ b) := by
  apply ByteArray.ext
  simp [bstr]
theorem bstr_add (l : List UInt8) (c : UInt8) : bstr l ++ { data := #[c] } = bstr (l ++ [c]) := bstr_app l [c]
theorem bstr_at (T : List UInt8) (p : Nat) (hp : p < (bstr T).size) : (bstr T)[p] = T.getD p 0 := by
  rw [List.getD_eq_getElem?_getD, List.getElem?_eq_getElem (by simpa [bstr_size] using hp)]
  rfl
theorem bstr_ext (T : List UInt8) (i j : Nat) : (bstr T).extract i j = bstr ((T.take j).drop i) := by
  apply ByteArray.ext
  apply Array.toList_inj.1
  rw [ByteArray.data_extract]
  unfold bstr
  rw [Array.toList_extract, List.extract_eq_take_drop, List.drop_take]
theorem bstr_inj {a b : List UInt8} (h : bstr a = bstr b) : a = b := by
  rw [← bstr_list a, ← bstr_list b, h]
theorem conv1 {P : Program} {src dst e : TypeId} (hs : P.underlying src = some (.slice e)) (he : P.underlying e = some (.int .u8)) (hd : P.underlying dst = some .string) (w : World) (c : Nat) (hc : c < 256) :
    (convert src dst (.slice (some ⟨w.heap.size, 0, none⟩) 1 1)).run P (w.alloc (.cells #[.int .u8 (c : Int)] e)) = .ok (.string (bstr [UInt8.ofNat c])) (w.alloc (.cells #[.int .u8 (c : Int)] e)) := by
  refine run_convert_bytes_back _ src dst e ⟨w.heap.size, 0, none⟩ 1 [UInt8.ofNat c] hs he hd (fun j hj => ?_)
  have hj0 : j = 0 := by simpa using hj
  subst hj0
  have ha : (⟨w.heap.size, 0, none⟩ : Addr).add 0 = ⟨w.heap.size, 0, none⟩ := rfl
  rw [ha, World.cell?_alloc_new]
  simp
  omega
theorem ret_bool {a b : Bool} (h : a = b) : Ending.returned (.bool a) = .returned (.bool b) := by rw [h]
theorem ret_int {k : IntKind} {a b : Int} (h : a = b) : Ending.returned (.int k a) = .returned (.int k b) := by rw [h]
theorem ret_str {a b : List UInt8} (h : a = b) : Ending.returned (.string (bstr a)) = .returned (.string (bstr b)) := by rw [h]
theorem take_next {α : Type} (l : List α) (k : Nat) (h : k < l.length) : l.take (k + 1) = l.take k ++ [l[k]] := List.take_succ_eq_append_getElem h
theorem take_next0 (l : List UInt8) (k : Nat) (h : k < l.length) : l.take (k + 1) = l.take k ++ [l.getD k 0] := by
  rw [take_next l k h, List.getD_eq_getElem?_getD, List.getElem?_eq_getElem h]; rfl
theorem mem_getD (l : List UInt8) (k : Nat) (h : k < l.length) : l.getD k 0 ∈ l := by
  rw [List.getD_eq_getElem?_getD, List.getElem?_eq_getElem h]; exact List.getElem_mem h
theorem slice_l {P : Program} {t : TypeId} (h : P.underlying t = some .string) (l : List UInt8) (k : Int) (j : Nat) (hj : k = (j : Int)) (hk : j ≤ l.length) (w : World) : (Instr.slice t (.string (bstr l)) (some (.int .i64 k)) none none).run P w = .ok (.string (bstr (l.drop j))) w := by
  subst hj
  rw [run_slice_string_l w t (bstr l) h .i64 (j : Int) (by omega) (by rw [bstr_size]; omega), bstr_ext, bstr_size, Int.toNat_natCast, List.take_length]
theorem slice_h {P : Program} {t : TypeId} (h : P.underlying t = some .string) (l : List UInt8) (k : Int) (j : Nat) (hj : k = (j : Int)) (hk : j ≤ l.length) (w : World) : (Instr.slice t (.string (bstr l)) none (some (.int .i64 k)) none).run P w = .ok (.string (bstr (l.take j))) w := by
  subst hj
  rw [run_slice_string_h w t (bstr l) h .i64 (j : Int) (by omega) (by rw [bstr_size]; omega), bstr_ext, Int.toNat_natCast, List.drop_zero]
theorem slice_lh {P : Program} {t : TypeId} (h : P.underlying t = some .string) (l : List UInt8) (a b : Int) (i j : Nat) (ha : a = (i : Int)) (hb : b = (j : Int)) (hij : i ≤ j) (hk : j ≤ l.length) (w : World) : (Instr.slice t (.string (bstr l)) (some (.int .i64 a)) (some (.int .i64 b)) none).run P w = .ok (.string (bstr ((l.take j).drop i))) w := by
  subst ha; subst hb
  rw [← bstr_ext]
  exact run_slice_string w t (bstr l) .i64 .i64 (i : Int) (j : Int) h (by omega) (by omega) (by rw [bstr_size]; omega)
end Go.Proofs.YtmodjglbjempkaaGreatDoor
namespace Go.Proofs.YtmodjglbjempkaaGreatDoor.Bi
open Go
theorem ofInt_i64 (a : Nat) (ha : a < 9223372036854775808) : (BitVec.ofInt 64 (a : Int)).toNat = a := by
  rw [BitVec.ofInt_natCast, BitVec.toNat_ofNat]; exact Nat.mod_eq_of_lt (by omega)
theorem i64_and_nat (a b : Nat) (ha : a < 9223372036854775808) (hb : b < 9223372036854775808) : bits .and .i64 (a : Int) (b : Int) = ((a &&& b : Nat) : Int) := by
  have hx : a &&& b < 2 ^ 63 := Nat.and_lt_two_pow _ (by omega)
  show IntKind.i64.wrap ((BitVec.ofInt 64 (a : Int) &&& BitVec.ofInt 64 (b : Int)).toNat : Int) = _
  rw [BitVec.toNat_and, ofInt_i64 a ha, ofInt_i64 b hb, IntKind.wrap_i64]
  omega
theorem i64_or_nat (a b : Nat) (ha : a < 9223372036854775808) (hb : b < 9223372036854775808) : bits .or .i64 (a : Int) (b : Int) = ((a ||| b : Nat) : Int) := by
  have hx : a ||| b < 2 ^ 63 := Nat.or_lt_two_pow (by omega) (by omega)
  show IntKind.i64.wrap ((BitVec.ofInt 64 (a : Int) ||| BitVec.ofInt 64 (b : Int)).toNat : Int) = _
  rw [BitVec.toNat_or, ofInt_i64 a ha, ofInt_i64 b hb, IntKind.wrap_i64]
  omega
theorem i64_xor_nat (a b : Nat) (ha : a < 9223372036854775808) (hb : b < 9223372036854775808) : bits .xor .i64 (a : Int) (b : Int) = ((a ^^^ b : Nat) : Int) := by
  have hx : a ^^^ b < 2 ^ 63 := Nat.xor_lt_two_pow (by omega) (by omega)
  show IntKind.i64.wrap ((BitVec.ofInt 64 (a : Int) ^^^ BitVec.ofInt 64 (b : Int)).toNat : Int) = _
  rw [BitVec.toNat_xor, ofInt_i64 a ha, ofInt_i64 b hb, IntKind.wrap_i64]
  omega
theorem shr_and1 (b k : Nat) (hb : b < 9223372036854775808) : bits .and .i64 ((b : Int) / 2 ^ k) 1 = ((b / 2 ^ k % 2 : Nat) : Int) := by
  have e : ((b : Int) / 2 ^ k) = ((b / 2 ^ k : Nat) : Int) := by simp
  have h : b / 2 ^ k ≤ b := Nat.div_le_self _ _
  rw [e, show (1 : Int) = ((1 : Nat) : Int) from rfl, i64_and_nat _ _ (by omega) (by omega), Nat.and_one_is_mod]
theorem or_join (a b i : Nat) (ha : a < 9223372036854775808) (hb : b < 9223372036854775808) (hx : a % 2 ^ i = 0) (hy : b < 2 ^ i) : bits .or .i64 (a : Int) (b : Int) = ((a + b : Nat) : Int) := by
  rw [i64_or_nat a b ha hb, nat_join i a b hx hy]
theorem or4a (b0 b1 : Nat) (h0 : b0 < 256) (h1 : b1 < 256) : bits .or .i64 ((b0 : Int) * 16777216) ((b1 : Int) * 65536) = ((b0 * 16777216 + b1 * 65536 : Nat) : Int) := by
  have e1 := or_join (b0 * 16777216) (b1 * 65536) 24 (by omega) (by omega) (by rw [show (2 : Nat) ^ 24 = 16777216 from rfl]; omega) (by rw [show (2 : Nat) ^ 24 = 16777216 from rfl]; omega)
  rwa [show ((b0 * 16777216 : Nat) : Int) = (b0 : Int) * 16777216 from rfl, show ((b1 * 65536 : Nat) : Int) = (b1 : Int) * 65536 from rfl] at e1
theorem or4b (a b2 : Nat) (h0 : a < 4294967296) (ha : a % 65536 = 0) (h1 : b2 < 256) : bits .or .i64 (a : Int) ((b2 : Int) * 256) = ((a + b2 * 256 : Nat) : Int) := by
  have e1 := or_join a (b2 * 256) 16 (by omega) (by omega) (by rw [show (2 : Nat) ^ 16 = 65536 from rfl]; omega) (by rw [show (2 : Nat) ^ 16 = 65536 from rfl]; omega)
  rwa [show ((b2 * 256 : Nat) : Int) = (b2 : Int) * 256 from rfl] at e1
theorem or4c (a b3 : Nat) (h0 : a < 4294967296) (ha : a % 256 = 0) (h1 : b3 < 256) : bits .or .i64 (a : Int) (b3 : Int) = ((a + b3 : Nat) : Int) :=
  or_join a b3 8 (by omega) (by omega) (by rw [show (2 : Nat) ^ 8 = 256 from rfl]; omega) (by rw [show (2 : Nat) ^ 8 = 256 from rfl]; omega)
theorem or4 (b0 b1 b2 b3 : Nat) (h0 : b0 < 256) (h1 : b1 < 256) (h2 : b2 < 256) (h3 : b3 < 256) :
    bits .or .i64 (bits .or .i64 (bits .or .i64 ((b0 : Int) * 16777216) ((b1 : Int) * 65536)) ((b2 : Int) * 256)) (b3 : Int) = ((b0 * 16777216 + b1 * 65536 + b2 * 256 + b3 : Nat) : Int) := by
  rw [or4a b0 b1 h0 h1, or4b _ b2 (by omega) (by omega) h2, or4c _ b3 (by omega) (by omega) h3]
theorem and15 (a k : Nat) (h : a < 9223372036854775808) : bits .and .i64 ((a : Int) / 2 ^ k) 15 = ((a / 2 ^ k % 16 : Nat) : Int) := by
  have e : ((a : Int) / 2 ^ k) = ((a / 2 ^ k : Nat) : Int) := by simp
  have h2 : a / 2 ^ k ≤ a := Nat.div_le_self _ _
  rw [e, show (15 : Int) = ((15 : Nat) : Int) from rfl, i64_and_nat _ _ (by omega) (by omega), show 15 = 2 ^ 4 - 1 from rfl, Nat.and_two_pow_sub_one_eq_mod]
theorem ret_int {k : IntKind} {a b : Int} (h : a = b) : Ending.returned (.int k a) = .returned (.int k b) := by rw [h]
end Go.Proofs.YtmodjglbjempkaaGreatDoor.Bi
namespace Go.Proofs.YtmodjglbjempkaaGreatDoor
open Go.RowKit
theorem eqF_cons {P : Program} {w : World} {d : Nat} {xs ys : Array Value} {f : Field} {fs : List Field} {r r2 : Bool} (a b : Value) (hn : f.name ≠ "_") (ha : (part f.type xs f.offset).run P w = .ok a w) (hb : (part f.type ys f.offset).run P w = .ok b w)
    (he : (Op.equalIn d f.type a b).run P w = .ok r w) (hr : (Op.eqFields d xs ys fs).run P w = .ok r2 w) : (Op.eqFields d xs ys (f :: fs)).run P w = .ok (r && r2) w := by
  unfold Op.eqFields
  rw [if_pos hn]
  simp only [Sem.run_bind, ha, hb, he, Result.andThen_ok]
  cases r
  · simp
  · simp [hr]
theorem eqF_nil {P : Program} {w : World} {d : Nat} {xs ys : Array Value} : (Op.eqFields d xs ys []).run P w = .ok true w := rfl
/-- two cells of one kind -/
def ceq : Value → Value → Bool
  | .int _ a, .int _ b => a == b
  | .bool a, .bool b => a == b
  | .string a, .string b => a.toList == b.toList
  | _, _ => false
def ceqs : List Value → List Value → Bool
  | a :: ra, b :: rb => ceq a b && ceqs ra rb
  | _, _ => true
inductive CK where
  | int (k : IntKind)
  | bool
  | str
def ckOf : Value → Option CK
  | .int k _ => some (.int k)
  | .bool _ => some .bool
  | .string _ => some .str
  | _ => none
def CK.fits (P : Program) (t : TypeId) : CK → Prop
  | .int k => P.underlying t = some (.int k)
  | .bool => P.underlying t = some .bool
  | .str => P.underlying t = some .string
def Flat (P : Program) : List Field → List CK → Nat → Prop
  | [], [], _ => True
  | f :: fs, k :: ks, i => f.name ≠ "_" ∧ f.offset = i ∧ P.plainKey f.type = true ∧ k.fits P f.type ∧ Flat P fs ks (i + 1)
  | _, _, _ => False
def CK.ok (P : Program) (t : TypeId) (k : CK) : Bool := match k, P.underlying t with
  | .int k, some (.int k') => decide (k = k')
  | .bool, some .bool => true
  | .str, some .string => true
  | _, _ => false
theorem CK.ok_fits {P : Program} {t : TypeId} {k : CK} (h : k.ok P t = true) : k.fits P t := by
  unfold CK.ok at h
  split at h
  · rename_i e; have := of_decide_eq_true h; subst this; exact e
  · rename_i e; exact e
  · rename_i e; exact e
  · cases h
def flatB (P : Program) : List Field → List CK → Nat → Bool
  | [], [], _ => true
  | f :: fs, k :: ks, i => f.name != "_" && (f.offset == i && (P.plainKey f.type && (k.ok P f.type && flatB P fs ks (i + 1))))
  | _, _, _ => false
theorem flat_of {P : Program} : ∀ (fs : List Field) (ks : List CK) (i : Nat), flatB P fs ks i = true → Flat P fs ks i
  | [], [], _, _ => trivial
  | f :: fs, k :: ks, i, h => by
    simp only [flatB, Bool.and_eq_true, bne_iff_ne, beq_iff_eq] at h
    exact ⟨h.1, h.2.1, h.2.2.1, CK.ok_fits h.2.2.2.1, flat_of fs ks (i + 1) h.2.2.2.2⟩
  | [], _ :: _, _, h => by cases h
  | _ :: _, [], _, h => by cases h
theorem ceq_run {P : Program} {w : World} {d : Nat} {t : TypeId} {k : CK} {a b : Value} (h : k.fits P t) (ha : ckOf a = some k) (hb : ckOf b = some k) : (Op.equalIn (d + 1) t a b).run P w = .ok (ceq a b) w := by
  cases a <;> simp only [ckOf] at ha <;> cases b <;> simp only [ckOf] at hb <;> first | (cases ha; done) | (cases hb; done) | skip
  all_goals (injection ha with ha; injection hb with hb; subst ha)
  all_goals (try (cases hb; done))
  · exact run_equalIn_bool' w d t _ _ h
  · injection hb with hb; subst hb; exact run_equalIn_int w d t _ _ _ _ h
  · exact run_equalIn_string w d t _ _ h
theorem flat_eq {P : Program} {w : World} {d : Nat} {xs ys : Array Value} : ∀ (fs : List Field) (ks : List CK) (i : Nat), Flat P fs ks i → (xs.toList.drop i).map ckOf = ks.map some → (ys.toList.drop i).map ckOf = ks.map some →
    (Op.eqFields (d + 1) xs ys fs).run P w = .ok (ceqs (xs.toList.drop i) (ys.toList.drop i)) w
  | [], [], i, _, hx, hy => by
    have h1 : xs.toList.drop i = [] := by simpa using hx
    rw [h1]; exact eqF_nil
  | f :: fs, k :: ks, i, hf, hx, hy => by
    obtain ⟨h1, h2, h3, h4, h5⟩ := hf
    cases ex : xs.toList.drop i with
    | nil => rw [ex] at hx; simp at hx
    | cons a ra =>
      cases ey : ys.toList.drop i with
      | nil => rw [ey] at hy; simp at hy
      | cons b rb =>
        rw [ex] at hx; rw [ey] at hy
        simp only [List.map_cons, List.cons.injEq] at hx hy
        have dx : xs.toList.drop (i + 1) = ra := by rw [← List.drop_drop, ex]; rfl
        have dy : ys.toList.drop (i + 1) = rb := by rw [← List.drop_drop, ey]; rfl
        have gx : xs[i]? = some a := by rw [← Array.getElem?_toList, ← List.head?_drop, ex]; rfl
        have gy : ys[i]? = some b := by rw [← Array.getElem?_toList, ← List.head?_drop, ey]; rfl
        have ih := flat_eq (w := w) (d := d) (xs := xs) (ys := ys) fs ks (i + 1) h5 (by rw [dx]; exact hx.2) (by rw [dy]; exact hy.2)
        rw [dx, dy] at ih
        exact eqF_cons a b h1 (by rw [h2]; exact run_part_plain w h3 gx) (by rw [h2]; exact run_part_plain w h3 gy) (ceq_run h4 hx.1 hy.1) ih
  | [], _ :: _, _, hf, _, _ => hf.elim
  | _ :: _, [], _, hf, _, _ => hf.elim
theorem agg_eq {P : Program} (w : World) (t : TypeId) (xs ys : Array Value) (ks : List CK) (ht : P.underlying t = some (.struct (P.fieldsOf t))) (hp : P.stoodInHeld t = false) (hf : Flat P (P.fieldsOf t).toList ks 0) (hx : xs.toList.map ckOf = ks.map some) (hy : ys.toList.map ckOf = ks.map some) :
    (Op.equalIn 10000 t (.agg xs) (.agg ys)).run P w = .ok (ceqs xs.toList ys.toList) w := by
  rw [run_equalIn_agg w 9999 t xs ys ht hp]
  exact flat_eq (d := 9998) _ ks 0 hf hx hy
end Go.Proofs.YtmodjglbjempkaaGreatDoor
