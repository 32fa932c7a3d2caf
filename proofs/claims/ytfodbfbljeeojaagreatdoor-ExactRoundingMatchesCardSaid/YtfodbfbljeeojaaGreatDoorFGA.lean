/- Blocks of cells and what keeps them: words for the contracts' worlds. A whole block stored cell by cell. Strings as lists of bytes: words for the contracts. -/
import Derived.WalkKit
import Derived.Lib.Hide
import Derived.Handy
import Derived.WalkSmall
import Derived.BigQuiet
import Derived.Deep.QuietTactic
import Derived.Laws.CopyOwn
import Derived.Test.YtfodbfbljeeojaaGreatDoorRows
import Derived.WalkLawsBesides
import Derived.Deep.CutBlock
import Derived.Deep.DeepCutAuto
import Derived.OwnWalk
import Derived.Shelf.Abstract
set_option linter.unusedSimpArgs false
set_option linter.unusedVariables false
namespace Go.Proofs.YtfodbfbljeeojaaGreatDoor
open Go.RowKit
/-- a fact kept from the walk: a structure, so that nothing unfolds it -/
structure Bx (p : Prop) : Prop where
  out : p
/-- block b holds the cells cs, written freely -/
def Row (w : World) (b : Nat) (t : TypeId) (cs : Array Value) : Prop := w.heap[b]? = some (.cells cs t (0, 0))
theorem Row.cell {w : World} {b : Nat} {t : TypeId} {cs : Array Value} (h : Row w b t cs) (j : Nat) : w.cell? ⟨b, j, none⟩ = cs[j]? := cell_of_row _ _ _ _ _ _ h
theorem Row.lt {w : World} {b : Nat} {t : TypeId} {cs : Array Value} (h : Row w b t cs) : b < w.heap.size := by
  unfold Row at h
  rcases Nat.lt_or_ge b w.heap.size with h' | h'
  · exact h'
  · rw [Array.getElem?_eq_none h'] at h; cases h
theorem Row.set {w : World} {b : Nat} {t : TypeId} {cs : Array Value} (h : Row w b t cs) (j : Nat) (v : Value) : Row (w.setCell ⟨b, j, none⟩ v) b t (cs.setIfInBounds j v) := heap_setCell_same _ _ _ _ _ _ h
theorem Row.other {w : World} {b : Nat} {t : TypeId} {cs : Array Value} (h : Row w b t cs) {a : Addr} (ha : a.block ≠ b) (v : Value) : Row (w.setCell a v) b t cs := by
  unfold Row
  rw [heap_setCell_other _ _ _ _ (fun e => ha e.symm)]; exact h
theorem Row.drew {w : World} {b : Nat} {t : TypeId} {cs : Array Value} (h : Row w b t cs) : Row w.drew b t cs := h
theorem Row.drewN {w : World} {b : Nat} {t : TypeId} {cs : Array Value} (h : Row w b t cs) (n : Nat) : Row (w.drewN n) b t cs := h
theorem Row.alloc {w : World} {b : Nat} {t : TypeId} {cs : Array Value} (h : Row w b t cs) (o : Obj) : Row (w.alloc o) b t cs := by
  unfold Row
  rw [Below.heap_alloc _ _ _ h.lt]; exact h
theorem Row.new (w : World) (t : TypeId) (cs : Array Value) : Row (w.alloc (.cells cs t)) w.heap.size t cs := heap_alloc_new _ _
theorem Row.below {w w' : World} {B b : Nat} {t : TypeId} {cs : Array Value} (h : Row w b t cs) (hb : Below B w w') (hB : b < B) : Row w' b t cs := by
  unfold Row
  rw [hb.block b hB]; exact h
theorem Row.same {w : World} {b : Nat} {t : TypeId} {cs cs' : Array Value} (h : Row w b t cs) (e : cs = cs') : Row w b t cs' := e ▸ h

/-- w' is w with new blocks; of the old ones only those in S may have turned -/
structure Keep (S : Nat → Prop) (w w' : World) : Prop where
  os : w'.os = w.os
  tape : w'.tape = w.tape
  output : w'.output = w.output
  size : w.heap.size ≤ w'.heap.size
  block : ∀ k, k < w.heap.size → ¬ S k → w'.heap[k]? = w.heap[k]?
theorem Keep.refl (S : Nat → Prop) (w : World) : Keep S w w := ⟨rfl, rfl, rfl, Nat.le_refl _, fun _ _ _ => rfl⟩
theorem Keep.trans {S : Nat → Prop} {a b c : World} (h : Keep S a b) (k : Keep S b c) : Keep S a c :=
  ⟨k.os.trans h.os, k.tape.trans h.tape, k.output.trans h.output, Nat.le_trans h.size k.size, fun i hi hs => (k.block i (Nat.lt_of_lt_of_le hi h.size) hs).trans (h.block i hi hs)⟩
theorem Keep.mono {S T : Nat → Prop} {w w' : World} (h : Keep S w w') (hs : ∀ k, k < w.heap.size → S k → T k) : Keep T w w' :=
  ⟨h.os, h.tape, h.output, h.size, fun k hk ht => h.block k hk (fun s => ht (hs k hk s))⟩
theorem Keep.drew {S : Nat → Prop} {a w : World} (h : Keep S a w) : Keep S a w.drew := ⟨h.os, h.tape, h.output, h.size, h.block⟩
theorem Keep.drewN {S : Nat → Prop} {a w : World} (h : Keep S a w) (n : Nat) : Keep S a (w.drewN n) := ⟨h.os, h.tape, h.output, h.size, h.block⟩
theorem Keep.alloc {S : Nat → Prop} {a w : World} (h : Keep S a w) (o : Obj) : Keep S a (w.alloc o) :=
  ⟨h.os, h.tape, h.output, by have := h.size; simp; omega, fun k hk hs => (Below.heap_alloc w o k (Nat.lt_of_lt_of_le hk h.size)).trans (h.block k hk hs)⟩
theorem Keep.setCell {S : Nat → Prop} {a w : World} (h : Keep S a w) {p : Addr} (hp : p.block < a.heap.size → S p.block) (u : Value) : Keep S a (w.setCell p u) :=
  ⟨h.os, h.tape, h.output, by have := h.size; simp [World.setCell]; omega, fun k hk hs => by
    rw [Below.heap_setCell _ _ _ _ (fun e => hs (by subst e; exact hp hk))]; exact h.block k hk hs⟩
theorem Keep.below {S : Nat → Prop} {w w' : World} (h : Keep S w w') {B : Nat} (hB : B ≤ w.heap.size) (hS : ∀ k, k < B → ¬ S k) : Below B w w' :=
  ⟨h.os, h.tape, h.output, h.size, fun k hk => h.block k (Nat.lt_of_lt_of_le hk hB) (hS k hk)⟩
theorem Keep.row {S : Nat → Prop} {w w' : World} (h : Keep S w w') {b : Nat} {t : TypeId} {cs : Array Value} (hr : Row w b t cs) (hS : ¬ S b) : Row w' b t cs := by
  unfold Row
  rw [h.block b hr.lt hS]; exact hr
def bvals (l : List UInt8) : List Value := l.map fun b => Value.int .u8 (b.toNat : Int)
theorem owns_nil (w : World) (base : Nat) (e : TypeId) (size : Nat) : w.ownsRow base e size (.slice none 0 0) 0 [] := ⟨by simp, .inl ⟨rfl, rfl⟩⟩
end Go.Proofs.YtfodbfbljeeojaaGreatDoor
namespace Go.Proofs.YtfodbfbljeeojaaGreatDoor
open Go.RowKit
end Go.Proofs.YtfodbfbljeeojaaGreatDoor
namespace Go.Proofs.YtfodbfbljeeojaaGreatDoor
open Go.RowKit
def bstr (l : List UInt8) : ByteArray := ⟨l.toArray⟩
theorem bstr_of (s : ByteArray) : ∃ l, s = bstr l := ⟨s.data.toList, rfl⟩
theorem bstr_list (l : List UInt8) : (bstr l).toList = l := by unfold bstr; rw [ByteArray.toList_mk]
theorem bstr_size (l : List UInt8) : (bstr l).size = l.length := rfl
theorem bstr_app (a b : List UInt8) : bstr a ++ bstr b = bstr (a ++ b) := by
  apply ByteArray.ext
  simp [bstr]
theorem bstr_at (T : List UInt8) (p : Nat) (hp : p < (bstr T).size) : (bstr T)[p] = T.getD p 0 := by
  rw [List.getD_eq_getElem?_getD, List.getElem?_eq_getElem (by simpa [bstr_size] using hp)]
  rfl
theorem bstr_ext (T : List UInt8) (i j : Nat) : (bstr T).extract i j = bstr ((T.take j).drop i) := by
  apply ByteArray.ext
  apply Array.toList_inj.1
  rw [ByteArray.data_extract]
  unfold bstr
  rw [Array.toList_extract, List.extract_eq_take_drop, List.drop_take]
end Go.Proofs.YtfodbfbljeeojaaGreatDoor
