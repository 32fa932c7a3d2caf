/- Blocks of cells and what keeps them: words for the contracts' worlds. A whole block stored cell by cell. Strings as lists of bytes: words for the contracts. A walk that reckons: states with values written out, run by the kernel's own reduction. -/
import Derived.WalkKit
import Derived.Lib.Hide
import Derived.Handy
import Derived.WalkSmall
import Derived.BigQuiet
import Derived.Deep.QuietTactic
import Derived.Laws.CopyOwn
import Derived.Test.YtnbahdnjcdimgaaDoorRows
import Derived.WalkLawsBesides
import Derived.Deep.CutBlock
import Derived.Deep.DeepCutAuto
import Derived.OwnWalk
import Derived.Shelf.Abstract
set_option linter.unusedSimpArgs false
set_option linter.unusedVariables false
namespace Go.Proofs.YtnbahdnjcdimgaaDoor
open Go.RowKit
/-- a fact kept from the walk: a structure, so that nothing unfolds it -/
structure Bx (p : Prop) : Prop where
  out : p
/-- block b holds the cells cs, written freely -/
def Row (w : World) (b : Nat) (t : TypeId) (cs : Array Value) : Prop := w.heap[b]? = some (.cells cs t (0, 0))
theorem Row.cell {w : World} {b : Nat} {t : TypeId} {cs : Array Value} (h : Row w b t cs) (j : Nat) : w.cell? ⟨b, j, none⟩ = cs[j]? := cell_of_row _ _ _ _ _ _ h
theorem Row.frozen {w : World} {b : Nat} {t : TypeId} {cs : Array Value} (h : Row w b t cs) (j : Nat) : w.frozen? ⟨b, j, none⟩ = false := frozen_of_row _ _ _ _ _ h
theorem Row.lt {w : World} {b : Nat} {t : TypeId} {cs : Array Value} (h : Row w b t cs) : b < w.heap.size := by
  unfold Row at h
  rcases Nat.lt_or_ge b w.heap.size with h' | h'
  · exact h'
  · rw [Array.getElem?_eq_none h'] at h; cases h
theorem Row.set {w : World} {b : Nat} {t : TypeId} {cs : Array Value} (h : Row w b t cs) (j : Nat) (v : Value) : Row (w.setCell ⟨b, j, none⟩ v) b t (cs.setIfInBounds j v) := heap_setCell_same _ _ _ _ _ _ h
theorem Row.other {w : World} {b : Nat} {t : TypeId} {cs : Array Value} (h : Row w b t cs) {a : Addr} (ha : a.block ≠ b) (v : Value) : Row (w.setCell a v) b t cs := by
  unfold Row
  rw [heap_setCell_other _ _ _ _ (fun e => ha e.symm)]; exact h
theorem Row.drew {w : World} {b : Nat} {t : TypeId} {cs : Array Value} (h : Row w b t cs) : Row w.drew b t cs := h
theorem Row.alloc {w : World} {b : Nat} {t : TypeId} {cs : Array Value} (h : Row w b t cs) (o : Obj) : Row (w.alloc o) b t cs := by
  unfold Row
  rw [Below.heap_alloc _ _ _ h.lt]; exact h
theorem Row.new (w : World) (t : TypeId) (cs : Array Value) : Row (w.alloc (.cells cs t)) w.heap.size t cs := heap_alloc_new _ _
theorem Row.below {w w' : World} {B b : Nat} {t : TypeId} {cs : Array Value} (h : Row w b t cs) (hb : Below B w w') (hB : b < B) : Row w' b t cs := by
  unfold Row
  rw [hb.block b hB]; exact h
theorem Row.same {w : World} {b : Nat} {t : TypeId} {cs cs' : Array Value} (h : Row w b t cs) (e : cs = cs') : Row w b t cs' := e ▸ h

/-- w' is w with new blocks; of the old ones only those in S may have turned -/
structure Keep (S : Nat → Prop) (w w' : World) : Prop where
  os : w'.os = w.os
  tape : w'.tape = w.tape
  output : w'.output = w.output
  size : w.heap.size ≤ w'.heap.size
  block : ∀ k, k < w.heap.size → ¬ S k → w'.heap[k]? = w.heap[k]?
theorem Keep.refl (S : Nat → Prop) (w : World) : Keep S w w := ⟨rfl, rfl, rfl, Nat.le_refl _, fun _ _ _ => rfl⟩
theorem Keep.trans {S : Nat → Prop} {a b c : World} (h : Keep S a b) (k : Keep S b c) : Keep S a c :=
  ⟨k.os.trans h.os, k.tape.trans h.tape, k.output.trans h.output, Nat.le_trans h.size k.size, fun i hi hs => (k.block i (Nat.lt_of_lt_of_le hi h.size) hs).trans (h.block i hi hs)⟩
theorem Keep.mono {S T : Nat → Prop} {w w' : World} (h : Keep S w w') (hs : ∀ k, k < w.heap.size → S k → T k) : Keep T w w' :=
  ⟨h.os, h.tape, h.output, h.size, fun k hk ht => h.block k hk (fun s => ht (hs k hk s))⟩
theorem Keep.drew {S : Nat → Prop} {a w : World} (h : Keep S a w) : Keep S a w.drew := ⟨h.os, h.tape, h.output, h.size, h.block⟩
theorem Keep.alloc {S : Nat → Prop} {a w : World} (h : Keep S a w) (o : Obj) : Keep S a (w.alloc o) :=
  ⟨h.os, h.tape, h.output, by have := h.size; simp; omega, fun k hk hs => (Below.heap_alloc w o k (Nat.lt_of_lt_of_le hk h.size)).trans (h.block k hk hs)⟩
theorem Keep.setCell {S : Nat → Prop} {a w : World} (h : Keep S a w) {p : Addr} (hp : p.block < a.heap.size → S p.block) (u : Value) : Keep S a (w.setCell p u) :=
  ⟨h.os, h.tape, h.output, by have := h.size; simp [World.setCell]; omega, fun k hk hs => by
    rw [Below.heap_setCell _ _ _ _ (fun e => hs (by subst e; exact hp hk))]; exact h.block k hk hs⟩
theorem Keep.below {S : Nat → Prop} {w w' : World} (h : Keep S w w') {B : Nat} (hB : B ≤ w.heap.size) (hS : ∀ k, k < B → ¬ S k) : Below B w w' :=
  ⟨h.os, h.tape, h.output, h.size, fun k hk => h.block k (Nat.lt_of_lt_of_le hk hB) (hS k hk)⟩
theorem Keep.row {S : Nat → Prop} {w w' : World} (h : Keep S w w') {b : Nat} {t : TypeId} {cs : Array Value} (hr : Row w b t cs) (hS : ¬ S b) : Row w' b t cs := by
  unfold Row
  rw [h.block b hr.lt hS]; exact hr
def bvals (l : List UInt8) : List Value := l.map fun b => Value.int .u8 (b.toNat : Int)
theorem owns_nil (w : World) (base : Nat) (e : TypeId) (size : Nat) : w.ownsRow base e size (.slice none 0 0) 0 [] := ⟨by simp, .inl ⟨rfl, rfl⟩⟩
end Go.Proofs.YtnbahdnjcdimgaaDoor
namespace Go.Proofs.YtnbahdnjcdimgaaDoor
open Go.RowKit
end Go.Proofs.YtnbahdnjcdimgaaDoor
namespace Go.Proofs.YtnbahdnjcdimgaaDoor
open Go.RowKit
def bstr (l : List UInt8) : ByteArray := ⟨l.toArray⟩
theorem bstr_of (s : ByteArray) : ∃ l, s = bstr l := ⟨s.data.toList, rfl⟩
theorem bstr_list (l : List UInt8) : (bstr l).toList = l := by unfold bstr; rw [ByteArray.toList_mk]
theorem bstr_size (l : List UInt8) : (bstr l).size = l.length := rfl
theorem bstr_app (a b : List UInt8) : bstr a ++ bstr b = bstr (a ++ b) := by
  apply ByteArray.ext
  simp [bstr]
theorem bstr_at (T : List UInt8) (p : Nat) (hp : p < (bstr T).size) : (bstr T)[p] = T.getD p 0 := by
  rw [List.getD_eq_getElem?_getD, List.getElem?_eq_getElem (by simpa [bstr_size] using hp)]
  rfl
theorem bstr_ext (T : List UInt8) (i j : Nat) : (bstr T).extract i j = bstr ((T.take j).drop i) := by
  apply ByteArray.ext
  apply Array.toList_inj.1
  rw [ByteArray.data_extract]
  unfold bstr
  rw [Array.toList_extract, List.extract_eq_take_drop, List.drop_take]
theorem take_next {α : Type} (l : List α) (k : Nat) (h : k < l.length) : l.take (k + 1) = l.take k ++ [l[k]] := List.take_succ_eq_append_getElem h
theorem take_next0 (l : List UInt8) (k : Nat) (h : k < l.length) : l.take (k + 1) = l.take k ++ [l.getD k 0] := by
  rw [take_next l k h, List.getD_eq_getElem?_getD, List.getElem?_eq_getElem h]; rfl
end Go.Proofs.YtnbahdnjcdimgaaDoor
namespace Go.Proofs.YtnbahdnjcdimgaaDoor
open Go.RowKit
namespace Sym
/-- values as the walk knows them -/
inductive SV where
  | lit (b : Bool)
  | bool (b : Bool)
  | prop (p : Prop) (h : Decidable p)
  | int (k : IntKind) (n : Int)
  | str (s : List UInt8)
  | ptr (i off : Nat)
  | agg (cs : List SV)
  | tup (vs : List SV)
  | fn (f : FuncId) (cs : List SV)
  | any (v : Value)
mutual
def SV.den (β : Nat → Nat) : SV → Value
  | .lit b => .bool b
  | .bool b => .bool b
  | .prop p h => .bool (@decide p h)
  | .int k n => .int k n
  | .str s => .string (bstr s)
  | .ptr i off => .pointer (some ⟨β i, off, none⟩)
  | .agg cs => .agg (SV.dens β cs).toArray
  | .tup vs => .tuple (SV.dens β vs).toArray
  | .fn f cs => .func (.func f) #[] (SV.dens β cs).toArray
  | .any v => v
def SV.dens (β : Nat → Nat) : List SV → List Value
  | [] => []
  | v :: r => v.den β :: SV.dens β r
end
mutual
/-- every block that is named lies below n -/
def SV.ok (n : Nat) : SV → Prop
  | .ptr i _ => i < n
  | .agg cs => SV.oks n cs
  | .tup vs => SV.oks n vs
  | .fn _ cs => SV.oks n cs
  | .any v => v.oneCell' = true
  | _ => True
def SV.oks (n : Nat) : List SV → Prop
  | [] => True
  | v :: r => v.ok n ∧ SV.oks n r
end
mutual
theorem SV.den_ext {n : Nat} {β β' : Nat → Nat} (hb : ∀ i, i < n → β' i = β i) : ∀ v : SV, v.ok n → v.den β' = v.den β
  | .lit _, _ => rfl
  | .bool _, _ => rfl
  | .prop _ _, _ => rfl
  | .int _ _, _ => rfl
  | .str _, _ => rfl
  | .ptr i _, h => by simp only [SV.den]; rw [hb i h]
  | .agg cs, h => by simp only [SV.den]; rw [SV.dens_ext hb cs h]
  | .tup cs, h => by simp only [SV.den]; rw [SV.dens_ext hb cs h]
  | .fn _ cs, h => by simp only [SV.den]; rw [SV.dens_ext hb cs h]
  | .any _, _ => rfl
theorem SV.dens_ext {n : Nat} {β β' : Nat → Nat} (hb : ∀ i, i < n → β' i = β i) : ∀ vs : List SV, SV.oks n vs → SV.dens β' vs = SV.dens β vs
  | [], _ => rfl
  | v :: r, h => by simp only [SV.dens]; rw [SV.den_ext hb v h.1, SV.dens_ext hb r h.2]
end
mutual
theorem SV.ok_mono {n m : Nat} (hn : n ≤ m) : ∀ v : SV, v.ok n → v.ok m
  | .lit _, _ => trivial
  | .bool _, _ => trivial
  | .prop _ _, _ => trivial
  | .int _ _, _ => trivial
  | .str _, _ => trivial
  | .ptr i _, h => Nat.lt_of_lt_of_le h hn
  | .agg cs, h => SV.oks_mono hn cs h
  | .tup cs, h => SV.oks_mono hn cs h
  | .fn _ cs, h => SV.oks_mono hn cs h
  | .any _, h => h
theorem SV.oks_mono {n m : Nat} (hn : n ≤ m) : ∀ vs : List SV, SV.oks n vs → SV.oks m vs
  | [], _ => trivial
  | v :: r, h => ⟨SV.ok_mono hn v h.1, SV.oks_mono hn r h.2⟩
end
theorem SV.dens_len (β : Nat → Nat) : ∀ vs : List SV, (SV.dens β vs).length = vs.length
  | [] => rfl
  | v :: r => by simp only [SV.dens, List.length_cons, SV.dens_len β r]
theorem SV.dens_get (β : Nat → Nat) : ∀ (vs : List SV) (i : Nat), (SV.dens β vs)[i]? = (vs[i]?).map (SV.den β)
  | [], _ => by simp [SV.dens]
  | v :: r, 0 => by simp [SV.dens]
  | v :: r, i + 1 => by simp only [SV.dens, List.getElem?_cons_succ]; exact SV.dens_get β r i
theorem SV.dens_append (β : Nat → Nat) : ∀ (a b : List SV), SV.dens β (a ++ b) = SV.dens β a ++ SV.dens β b
  | [], _ => rfl
  | v :: r, b => by simp only [List.cons_append, SV.dens, SV.dens_append β r b]
theorem SV.dens_take (β : Nat → Nat) : ∀ (a : List SV) (n : Nat), SV.dens β (a.take n) = (SV.dens β a).take n
  | [], n => by simp [SV.dens]
  | v :: r, 0 => by simp [SV.dens]
  | v :: r, n + 1 => by simp only [List.take_succ_cons, SV.dens, SV.dens_take β r n]
theorem SV.dens_drop (β : Nat → Nat) : ∀ (a : List SV) (n : Nat), SV.dens β (a.drop n) = (SV.dens β a).drop n
  | [], n => by simp [SV.dens]
  | v :: r, 0 => by simp
  | v :: r, n + 1 => by simp only [List.drop_succ_cons, SV.dens, SV.dens_drop β r n]
theorem SV.oks_get {n : Nat} : ∀ (vs : List SV) (i : Nat) (v : SV), SV.oks n vs → vs[i]? = some v → v.ok n
  | [], _, _, _, h => by simp at h
  | v :: r, 0, u, h, e => by simp at e; rw [← e]; exact h.1
  | v :: r, i + 1, u, h, e => SV.oks_get r i u h.2 (by simpa using e)
theorem SV.oks_take {n : Nat} : ∀ (vs : List SV) (m : Nat), SV.oks n vs → SV.oks n (vs.take m)
  | [], m, _ => by simp [SV.oks]
  | v :: r, 0, _ => by simp [SV.oks]
  | v :: r, m + 1, h => by simp only [List.take_succ_cons]; exact ⟨h.1, SV.oks_take r m h.2⟩
theorem SV.oks_drop {n : Nat} : ∀ (vs : List SV) (m : Nat), SV.oks n vs → SV.oks n (vs.drop m)
  | [], m, _ => by simp [SV.oks]
  | v :: r, 0, h => by simpa using h
  | v :: r, m + 1, h => by simp only [List.drop_succ_cons]; exact SV.oks_drop r m h.2
theorem SV.oks_append {n : Nat} : ∀ (a b : List SV), SV.oks n a → SV.oks n b → SV.oks n (a ++ b)
  | [], _, _, h => h
  | v :: r, b, h, k => ⟨h.1, SV.oks_append r b h.2 k⟩
/-- a block as the walk knows it: cells written out, or numbers that can be read from a place on -/
inductive SRow where
  | cells (t : TypeId) (cs : List SV)
  | blob (Φ : Nat → Option Obj → Prop)
def SRow.ok (n : Nat) : SRow → Prop
  | .cells _ cs => SV.oks n cs
  | .blob _ => True
def RowIs (w : World) (β : Nat → Nat) (b : Nat) : SRow → Prop
  | .cells t cs => Row w b t (SV.dens β cs).toArray
  | .blob Φ => b < w.heap.size ∧ Φ b w.heap[b]?
def get {α : Type} : List (Nat × α) → Nat → Option α
  | [], _ => none
  | (i, x) :: r, j => bif Nat.beq i j then some x else get r j
theorem get_cons {α : Type} (i j : Nat) (x : α) (r : List (Nat × α)) : get ((i, x) :: r) j = if i = j then some x else get r j := by
  simp only [get]
  cases h : Nat.beq i j with
  | true => rw [if_pos (Nat.eq_of_beq_eq_true h)]; rfl
  | false => rw [if_neg (Nat.ne_of_beq_eq_false h)]; rfl
structure St where
  fr : List (Nat × SV)
  rows : List (Nat × Bool × SRow)
  next : Nat
  n : Nat
/-- the world at the start, and blocks that were named then -/
structure Base where
  w : World
  β0 : Nat → Nat
  n0 : Nat
  pr : Nat → Prop
abbrev Base.of (w : World) : Base := ⟨w, fun _ => 0, 0, fun _ => False⟩
/-- blocks that the walk is bound to leave alone -/
def Prot (w0 : Base) (rows : List (Nat × Bool × SRow)) (β : Nat → Nat) (w : World) : Prop := ∀ b, w0.pr b → b < w.heap.size ∧ w.heap[b]? = w0.w.heap[b]? ∧ ∀ i r, get rows i = some (true, r) → β i ≠ b
theorem Prot.step {w0 : Base} {rows rows' : List (Nat × Bool × SRow)} {β β' : Nat → Nat} {w w' : World} (h : Prot w0 rows β w) (hw : ∀ b, b < w.heap.size → (∀ i r, get rows i = some (true, r) → β i ≠ b) → b < w'.heap.size ∧ w'.heap[b]? = w.heap[b]?)
    (hr : ∀ i r, get rows' i = some (true, r) → (∃ j q, get rows j = some (true, q) ∧ β' i = β j) ∨ w.heap.size ≤ β' i) : Prot w0 rows' β' w' := fun b hb => by
  obtain ⟨h1, h2, h3⟩ := h b hb
  obtain ⟨k1, k2⟩ := hw b h1 h3
  refine ⟨k1, k2.trans h2, fun i r hi => ?_⟩
  rcases hr i r hi with ⟨j, q, e1, e2⟩ | e
  · rw [e2]; exact h3 j q e1
  · omega
theorem Prot.same {w0 : Base} {rows rows' : List (Nat × Bool × SRow)} {β β' : Nat → Nat} {w : World} (h : Prot w0 rows β w)
    (hr : ∀ i r, get rows' i = some (true, r) → ∃ j q, get rows j = some (true, q) ∧ β' i = β j) : Prot w0 rows' β' w := h.step (fun b h1 _ => ⟨h1, rfl⟩) fun i r hi => .inl (hr i r hi)
/-- a block of one's own is written -/
theorem Prot.write {w0 : Base} {rows : List (Nat × Bool × SRow)} {β : Nat → Nat} {w w' : World} {i : Nat} {r0 r1 : SRow} (h : Prot w0 rows β w) (hi : get rows i = some (true, r0)) (hsz : w'.heap.size = w.heap.size) (hw : ∀ b, b ≠ β i → w'.heap[b]? = w.heap[b]?) : Prot w0 ((i, true, r1) :: rows) β w' :=
  h.step (fun b h1 h2 => ⟨by omega, hw b (fun e => h2 i r0 hi e.symm)⟩) fun j r hj => by
    rw [get_cons] at hj
    by_cases e : i = j
    · subst e; exact .inl ⟨i, r0, hi, rfl⟩
    · rw [if_neg e] at hj; exact .inl ⟨j, r, hj, rfl⟩
/-- a block gets the number i; other numbers keep theirs -/
theorem Prot.ren {w0 : Base} {rows rows' : List (Nat × Bool × SRow)} {β : Nat → Nat} {w : World} {i b : Nat} (h : Prot w0 rows β w) (hr : ∀ j r, get rows' j = some (true, r) → j ≠ i → ∃ q, get rows j = some (true, q)) (hi : ∀ r, get rows' i = some (true, r) → ∃ k q, get rows k = some (true, q) ∧ b = β k) : Prot w0 rows' (fun q => if q = i then b else β q) w :=
  h.same fun j r hj => by
    by_cases e : j = i
    · subst e
      obtain ⟨k, q, h1, h2⟩ := hi r hj
      exact ⟨k, q, h1, by rw [if_pos rfl]; exact h2⟩
    · obtain ⟨q, hq⟩ := hr j r hj e
      exact ⟨j, q, hq, by rw [if_neg e]⟩
structure Mem (base : Nat) (w0 : Base) (rows : List (Nat × Bool × SRow)) (next : Nat) (β : Nat → Nat) (w : World) : Prop where
  below : Below base w0.w w
  base_le : base ≤ w.heap.size
  row : ∀ i o r, get rows i = some (o, r) → RowIs w β (β i) r ∧ r.ok next ∧ i < next ∧ (o = true → base ≤ β i)
  lt : ∀ i, i < next → β i < w.heap.size
  inj : ∀ i j r o r', get rows i = some (true, r) → get rows j = some (o, r') → j ≠ i → β j ≠ β i
  n0 : w0.n0 ≤ next
  ext : ∀ i, i < w0.n0 → β i = w0.β0 i
  pr : Prot w0 rows β w
structure Sat (base : Nat) (w0 : Base) (st : St) (β : Nat → Nat) (a : Act) (w : World) : Prop where
  defers : a.defers = []
  size : a.tmps.size = st.n
  slot : ∀ s v, get st.fr s = some v → a.tmps.getD s undef = v.den β ∧ v.ok st.next
  mem : Mem base w0 st.rows st.next β w
def St.put (st : St) (d : Nat) (v : SV) : St := match st with | ⟨fr, rows, nx, n⟩ => ⟨(d, v) :: fr, rows, nx, n⟩
def St.setRow (st : St) (i : Nat) (o : Bool) (r : SRow) : St := match st with | ⟨fr, rows, nx, n⟩ => ⟨fr, (i, o, r) :: rows, nx, n⟩
def St.new (st : St) (d : Nat) (r : SRow) : St := match st with | ⟨fr, rows, nx, n⟩ => ⟨(d, .ptr nx 0) :: fr, (nx, true, r) :: rows, nx + 1, n⟩
/-- types as the walk knows them -/
inductive TK where
  | int (k : IntKind)
  | bool
  | str
  | struct (flds : List (Nat × TypeId))
  | slice (e : TypeId)
  | other
structure TI where
  k : TK
  size : Nat
  agg : Bool
  zero : List SV
abbrev Env := List (Nat × TI)
def ikEq : IntKind → IntKind → Bool
  | .i8, .i8 | .i16, .i16 | .i32, .i32 | .i64, .i64 | .u8, .u8 | .u16, .u16 | .u32, .u32 | .u64, .u64 => true
  | _, _ => false
theorem ikEq_eq {a b : IntKind} (h : ikEq a b = true) : a = b := by cases a <;> cases b <;> first | rfl | cases h
/-- the number lies in its type -/
def inK : IntKind → Int → Prop
  | .i64, n => -9223372036854775808 ≤ n ∧ n ≤ 9223372036854775807
  | .u8, n => 0 ≤ n ∧ n ≤ 255
  | .u32, n => 0 ≤ n ∧ n ≤ 4294967295
  | .i32, n => -2147483648 ≤ n ∧ n ≤ 2147483647
  | .u64, n => 0 ≤ n ∧ n ≤ 18446744073709551615
  | .u16, n => 0 ≤ n ∧ n ≤ 65535
  | .i16, n => -32768 ≤ n ∧ n ≤ 32767
  | .i8, n => -128 ≤ n ∧ n ≤ 127
theorem inK_wrap {k : IntKind} {n : Int} (h : inK k n) : k.wrap n = n := by
  cases k <;> simp only [inK] at h <;> simp [IntKind.wrap, IntKind.signed, IntKind.bits] <;> omega
structure TIok (P : Program) (t : TypeId) (ti : TI) : Prop where
  size : ∀ w, (sizeOf t).run P w = .ok ti.size w
  agg : ∀ w, (isAgg t).run P w = .ok ti.agg w
  zero : ∀ w, ∃ z, (zeroValue t).run P w = .ok z w ∧ (∀ β, z.cells = (SV.dens β ti.zero).toArray) ∧ SV.oks 0 ti.zero
  und : match ti.k with
    | .int k => P.underlying t = some (.int k)
    | .bool => P.underlying t = some .bool
    | .str => P.underlying t = some .string
    | .struct flds => ∃ fs, P.underlying t = some (.struct fs) ∧ fs.toList.map (fun f => (f.offset, f.type)) = flds
    | .slice e => P.underlying t = some (.slice e)
    | .other => True
def EnvOK (P : Program) : Env → Prop
  | [] => P.follows .mixedOrders = true
  | (t, ti) :: r => TIok P t ti ∧ EnvOK P r
inductive It where
  | code (c : Code)
  | ops (all l : List Oper)
  | inBlk (id : Nat)
  | back (I : Act → World → Prop)
def contQ (P : Program) (Q : Exit → Act → World → Prop) : List It → Exit → Act → World → Prop
  | [] => Q
  | .code c :: k => Exit.then (c.wp P (contQ P Q k)) (contQ P Q k)
  | .ops all l :: k => Exit.then (wpList P all.toArray (contQ P Q k) l) (contQ P Q k)
  | .inBlk id :: k => Exit.inBlock id (contQ P Q k)
  | .back I :: k => Exit.then I (contQ P Q k)
structure Ctx where
  P : Program
  E : Env
  base : Nat
  w0 : Base
  fn : Func
  res : List ResultVar
  R : Ending → World → Prop
  sc : List Nat
  sb : List Nat
abbrev Ctx.Q (C : Ctx) : Exit → Act → World → Prop := bodyPost C.P C.fn C.R
def constSV : Value → Option SV
  | .bool b => some (.lit b)
  | .int k n => some (.int k n)
  | .string ⟨⟨l⟩⟩ => some (.str l)
  | .tuple _ => none
  | .agg _ => none
  | .pointer a => some (.any (.pointer a))
  | .slice a n c => some (.any (.slice a n c))
  | .nilFunc => some (.any .nilFunc)
  | .nilIface => some (.any .nilIface)
  | .map a => some (.any (.map a))
  | _ => none
def SV.one : SV → Bool
  | .agg _ => false
  | .tup _ => false
  | _ => true
def allOne : List SV → Bool
  | [] => true
  | v :: r => match v.one with
    | true => allOne r
    | false => false
def ev (fr : List (Nat × SV)) : Operand → Option SV
  | .tmp t => get fr t
  | .const v => constSV v
  | .func f => some (.fn f [])
  | .global g => some (.any (.pointer (some ⟨g, 0, none⟩)))
def evs (fr : List (Nat × SV)) : List Operand → (List SV → Prop) → Prop
  | [], K => K []
  | x :: r, K => match ev fr x with
    | some v => evs fr r (fun vs => K (v :: vs))
    | none => False
def br (v : SV) (T F : Prop) : Prop := match v with
  | .lit b => match b with
    | true => T
    | false => F
  | .bool b => (b = true → T) ∧ (b = false → F)
  | .prop p _ => (p → T) ∧ (¬ p → F)
  | _ => False
def forceL : List SV → (List SV → Prop) → Prop
  | [], K => K []
  | v :: r, K => forceL r (fun r' => K (v :: r'))
def cellsSV : SV → Option (List SV)
  | .agg cs => some cs
  | v => some [v]
def splice (cs : List SV) (off : Nat) (vs : List SV) : List SV := cs.take off ++ (vs ++ cs.drop (off + vs.length))
def putD (d : Option Nat) (v : SV) (st : St) (K : St → Prop) : Prop := match d, st with
  | some d, ⟨fr, rows, nx, n⟩ => bif Nat.blt d n then K ⟨(d, v) :: fr, rows, nx, n⟩ else False
  | none, _ => False
def loadV (E : Env) (rows : List (Nat × Bool × SRow)) (t i off : Nat) (K : SV → Prop) : Prop :=
  match get rows i, get E t with
  | some (_, .cells _ cs), some ⟨_, sz, ag, _⟩ =>
    match ag with
    | true => bif Nat.ble (off + sz) cs.length then forceL ((cs.drop off).take sz) (fun l => K (.agg l)) else False
    | false => match cs[off]? with
      | some v => K v
      | none => False
  | _, _ => False
def sizesOf (E : Env) : List (Nat × TypeId) → Option (List (Nat × Nat))
  | [] => some []
  | (o, t) :: r => match get E t with
    | some ⟨_, sz, _, _⟩ => (match sizesOf E r with
      | some l => some ((o, sz) :: l)
      | none => none)
    | none => none
def fillS (pl : List (Nat × Nat)) : List SV → List (Nat × SV) → Option (List SV)
  | cs, [] => some cs
  | cs, (i, v) :: r => match pl[i]?, cellsSV v with
    | some (off, sz), some vs => bif Nat.beq vs.length sz && Nat.ble (off + vs.length) cs.length then fillS pl (splice cs off vs) r else none
    | _, _ => none
def evParts (fr : List (Nat × SV)) : List (Nat × Operand) → (List (Nat × SV) → Prop) → Prop
  | [], K => K []
  | (i, x) :: r, K => match ev fr x with
    | some v => evParts fr r (fun vs => K ((i, v) :: vs))
    | none => False
def arith (k : IntKind) (n : Int) (K : SV → Prop) : Prop := inK k n ∧ K (.int k n)
def evBin (op : BinOp) (x y : SV) (K : SV → Prop) : Prop := match x, y with
  | .int k a, .int k' b => bif ikEq k k' then (match op with
    | .add => arith k (a + b) K
    | .sub => arith k (a - b) K
    | .mul => arith k (a * b) K
    | .eql => K (.prop (a = b) (Int.instDecidableEq a b))
    | .neq => K (.prop (¬ a = b) (@instDecidableNot _ (Int.instDecidableEq a b)))
    | .lss => K (.prop (a < b) (Int.decLt a b))
    | .leq => K (.prop (a ≤ b) (Int.decLe a b))
    | .gtr => K (.prop (b < a) (Int.decLt b a))
    | .geq => K (.prop (b ≤ a) (Int.decLe b a))
    | _ => False) else False
  | .str a, .str b => match op with
    | .add => ((a.length : Int) + b.length ≤ 9223372036854775807) ∧ K (.str (a ++ b))
    | .eql => K (.prop (a = b) (instDecidableEqList a b))
    | .neq => K (.prop (¬ a = b) (@instDecidableNot _ (instDecidableEqList a b)))
    | _ => False
  | _, _ => False
/-- two structs are held against each other -/
def AggEq (P : Program) (t : TypeId) (us vs : List SV) (b : Bool) : Prop := P.eqGuardType P.depth t = false ∧ ∀ β w, (Op.equal t (.agg (SV.dens β us).toArray) (.agg (SV.dens β vs).toArray)).run P w = .ok b w
/-- operations that yield a value and leave the world alone -/
def evVal0 (C : Ctx) (op : Op) (fr : List (Nat × SV)) (rows : List (Nat × Bool × SRow)) (K : SV → Prop) : Prop := match op with
    | .move x => match ev fr x with
      | some v => K v
      | none => False
    | .assign x => match ev fr x with
      | some v => K v
      | none => False
    | .pick c a b => match ev fr c with
      | some cv => br cv (match ev fr a with
        | some v => K v
        | none => False) (match ev fr b with
        | some v => K v
        | none => False)
      | none => False
    | .build t ⟨ps⟩ => match get C.E t with
      | some ⟨.struct flds, _, _, z⟩ => evParts fr ps (fun vs => match sizesOf C.E flds with
        | some pl => (match fillS pl z vs with
          | some cs => forceL cs (fun l => K (.agg l))
          | none => False)
        | none => False)
      | _ => False
    | .load t x => match ev fr x with
      | some (.ptr i off) => loadV C.E rows t i off K
      | _ => False
    | .fieldAddr t x f => match ev fr x, get C.E t with
      | some (.ptr i off), some ⟨.struct flds, _, _, _⟩ => match flds[f]? with
        | some (o, ft) => match get C.E ft with
          | some ⟨_, sz, _, _⟩ => bif Nat.beq sz 0 then False else K (.ptr i (off + o))
          | none => False
        | none => False
      | _, _ => False
    | .binOp op t x y _ => match ev fr x, ev fr y with
      | some (.agg us), some (.agg vs) => match op with
        | .eql => ∃ b : Bool, AggEq C.P t us vs b ∧ K (.bool b)
        | .neq => ∃ b : Bool, AggEq C.P t us vs b ∧ K (.bool (!b))
        | _ => False
      | some u, some v => evBin op u v K
      | _, _ => False
    | .unOp op _ x => match op, ev fr x with
      | .not, some (.lit b) => K (.lit (!b))
      | .not, some (.bool b) => K (.bool (!b))
      | .not, some (.prop p h) => K (.prop (¬ p) (@instDecidableNot p h))
      | .neg, some (.int k a) => arith k (0 - a) K
      | _, _ => False
    | .extract x i => match ev fr x with
      | some (.tup vs) => match vs[i]? with
        | some v => K v
        | none => False
      | _ => False
    | .index t x y => match ev fr x, ev fr y, get C.E t with
      | some (.str s), some (.int _ i), some ⟨.str, _, _, _⟩ => ∃ j : Nat, i = (j : Int) ∧ j < s.length ∧ K (.int .u8 ((s.getD j 0).toNat : Int))
      | _, _, _ => False
    | .call ⟨.builtin .len, ⟨[x]⟩, ⟨[t]⟩⟩ => match ev fr x, get C.E t with
      | some (.str s), some ⟨.str, _, _, _⟩ => K (.int .i64 (s.length : Int))
      | _, _ => False
    | .call ⟨.builtin .max, ⟨[x, y]⟩, _⟩ => match ev fr x, ev fr y with
      | some (.int k a), some (.int k' b) => bif ikEq k k' then K (.int k (max a b)) else False
      | _, _ => False
    | .call ⟨.builtin .min, ⟨[x, y]⟩, _⟩ => match ev fr x, ev fr y with
      | some (.int k a), some (.int k' b) => bif ikEq k k' then K (.int k (min a b)) else False
      | _, _ => False
    | .slice t x lo hi none => match ev fr x, get C.E t with
      | some (.str s), some ⟨.str, _, _, _⟩ => match lo, hi with
        | none, none => K (.str s)
        | some a, none => match ev fr a with
          | some (.int _ i) => ∃ l : Nat, i = (l : Int) ∧ l ≤ s.length ∧ K (.str (s.drop l))
          | _ => False
        | none, some b => match ev fr b with
          | some (.int _ j) => ∃ h : Nat, j = (h : Int) ∧ h ≤ s.length ∧ K (.str (s.take h))
          | _ => False
        | some a, some b => match ev fr a, ev fr b with
          | some (.int _ i), some (.int _ j) => ∃ l h : Nat, i = (l : Int) ∧ j = (h : Int) ∧ l ≤ h ∧ h ≤ s.length ∧ K (.str ((s.take h).drop l))
          | _, _ => False
      | _, _ => False
    | .convert t u x => match ev fr x, get C.E u, get C.E t with
      | some (.int _ a), some ⟨.int k, _, _, _⟩, some ⟨.int _, _, _, _⟩ => arith k a K
      | _, _, _ => False
    | _ => False
def isAnyO : Option SV → Bool
  | some (.any _) => true
  | _ => false
def isBO : Option SV → Bool
  | some (.bool _) => true
  | some (.lit _) => true
  | some (.prop _ _) => true
  | _ => false
def isAggO : Option SV → Bool
  | some (.agg _) => true
  | _ => false
def lenX (fr : List (Nat × SV)) : Call → Bool
  | ⟨.builtin .len, ⟨[x]⟩, _⟩ => isAnyO (ev fr x)
  | _ => false
/-- operations that the walk does not reckon by itself -/
def isX (E : Env) (op : Op) (fr : List (Nat × SV)) : Bool := match op with
  | .indexAddr _ _ _ => true
  | .load _ x => isAnyO (ev fr x)
  | .fieldAddr _ x _ => isAnyO (ev fr x)
  | .index _ x _ => isAggO (ev fr x)
  | .build t _ => (match get E t with
    | some ⟨.struct _, _, _, _⟩ => false
    | _ => true)
  | .call c => lenX fr c
  | .binOp b _ x _ _ => (match b with
    | .quo => true
    | .rem => true
    | .shl => true
    | .shr => true
    | .and => true
    | .or => true
    | .xor => true
    | .andNot => true
    | _ => isAnyO (ev fr x) || isBO (ev fr x))
  | .makeFunc _ _ _ => true
  | .slice _ x _ _ _ => isAnyO (ev fr x)
  | .convert _ _ x => isAnyO (ev fr x)
  | .field _ _ _ => true
  | .lookup _ _ _ _ => true
  | .nilCheck _ => true
  | .typeAssert _ _ _ _ => true
  | .makeInterface _ _ => true
  | _ => false
def optL : Option Operand → List Operand
  | none => []
  | some x => [x]
def opsX : Op → List Operand
  | .indexAddr _ x y => [x, y]
  | .load _ x => [x]
  | .fieldAddr _ x _ => [x]
  | .index _ x y => [x, y]
  | .build _ ⟨ps⟩ => ps.map (·.2)
  | .call ⟨_, ⟨xs⟩, _⟩ => xs
  | .binOp _ _ x y _ => [x, y]
  | .makeFunc _ ⟨xs⟩ ⟨ys⟩ => xs ++ ys
  | .slice _ x lo hi mx => x :: (optL lo ++ (optL hi ++ optL mx))
  | .convert _ _ x => [x]
  | .field _ x _ => [x]
  | .lookup _ x y _ => [x, y]
  | .nilCheck x => [x]
  | .typeAssert x _ _ _ => [x]
  | .makeInterface _ x => [x]
  | _ => []
/-- what lies in memory as blobs -/
def blobG (rows : List (Nat × Bool × SRow)) (i : Nat) : Option (Nat → Option Obj → Prop) := match get rows i with
  | some (_, .blob Φ) => some Φ
  | _ => none
abbrev Blobs := Nat → Option (Nat → Option Obj → Prop)
@[irreducible] def ExtN (C : Ctx) (G : Blobs) (op : Op) (us : List SV) (v : SV) : Prop := ∀ (ρ : Operand → Value) (β : Nat → Nat) (w : World) (dst : Option Nat) (ty : TypeId) (pos : String) (after : Array Edge) (g : Option (Nat × Bool)), Below C.base C.w0.w w → (∀ i Φ, G i = some Φ → β i < w.heap.size ∧ Φ (β i) w.heap[β i]?) → (opsX op).map ρ = SV.dens β us → (execOp ρ ⟨dst, op, ty, pos, after, g⟩).run C.P w = .ok (.value (v.den β)) w
def extV (C : Ctx) (G : Blobs) (op : Op) (fr : List (Nat × SV)) (K : SV → Prop) : Prop := evs fr (opsX op) (fun us => ∃ v : SV, (∀ n, SV.oks n us → v.ok n) ∧ ExtN C G op us v ∧ K v)
def evVal (C : Ctx) (op : Op) (fr : List (Nat × SV)) (rows : List (Nat × Bool × SRow)) (K : SV → Prop) : Prop := match isX C.E op fr with
  | true => extV C (blobG rows) op fr K
  | false => evVal0 C op fr rows K
def evOp (C : Ctx) (o : Oper) (st : St) (K : St → Prop) : Prop := match o, st with
  | ⟨dst, op, _, _, _, _⟩, ⟨fr, rows, nx, n⟩ => match op with
    | .alloc t => match get C.E t with
      | some ⟨_, _, _, z⟩ => putD dst (.ptr nx 0) ⟨fr, (nx, true, .cells t z) :: rows, nx + 1, n⟩ K
      | none => False
    | .box t x => match ev fr x with
      | some v => match cellsSV v with
        | some cs => putD dst (.ptr nx 0) ⟨fr, (nx, true, .cells t cs) :: rows, nx + 1, n⟩ K
        | none => False
      | none => False
    | .store t x y => match ev fr x, ev fr y, get C.E t with
      | some (.ptr i off), some v, some ⟨_, sz, _, _⟩ => match cellsSV v, get rows i, dst with
        | some vs, some (true, .cells t' cs), none => bif (Nat.beq vs.length sz && Nat.ble (off + sz) cs.length) && allOne vs then forceL (splice cs off vs) (fun l => K ⟨fr, (i, true, .cells t' l) :: rows, nx, n⟩) else False
        | _, _, _ => False
      | _, _, _ => False
    | op => evVal C op fr rows (fun v => putD dst v ⟨fr, rows, nx, n⟩ K)
def mem (n : Nat) : List Nat → Bool
  | [] => false
  | m :: r => match Nat.beq m n with
    | true => true
    | false => mem n r
def popTo (id : Nat) : List It → Option (List It)
  | [] => none
  | .inBlk j :: k => bif Nat.beq j id then some k else popTo id k
  | _ :: k => popTo id k
def resV (C : Ctx) (st : St) : List ResultVar → (List SV → Prop) → Prop
  | [], K => K []
  | .tmp t :: r, K => match get st.fr t with
    | some v => resV C st r (fun vs => K (v :: vs))
    | none => False
  | .cell a t :: r, K => match get st.fr a with
    | some (.ptr i off) => loadV C.E st.rows t i off (fun v => resV C st r (fun vs => K (v :: vs)))
    | _ => False
@[irreducible] def RetN (C : Ctx) (st : St) (v : SV) : Prop := ∀ β w, Mem C.base C.w0 st.rows st.next β w → C.R (.returned (v.den β)) w
def retS (C : Ctx) (st : St) : Prop := resV C st C.res (fun vs => match vs with
  | [v] => RetN C st v
  | vs => RetN C st (.tup vs))
def entersB (P : Program) (f : FuncId) : Bool := match P.funcs[f]? with
  | some fn => fn.body.isSome && fn.name != "runtime.NumGoroutine"
  | none => false
@[irreducible] def CallN (C : Ctx) (all l : List Oper) (k : List It) (dst : Option Nat) (f : FuncId) (args : List SV) (st : St) : Prop :=
  entersB C.P f = true ∧ ∀ β a w, Sat C.base C.w0 st β a w → Calls C.P f (SV.dens β args).toArray w fun
    | .returned v, w' => wpList C.P all.toArray (contQ C.P C.Q k) l (a.put dst v) w'
    | .panicked c, w' => contQ C.P C.Q k (.panic c) a w'
    | .outgrown, _ => LetsOut (contQ C.P C.Q k)
@[irreducible] def LoopN (C : Ctx) (c : Code) (k : List It) (st : St) : Prop := ∀ β a w, Sat C.base C.w0 st β a w → (Code.loop c).wp C.P (contQ C.P C.Q k) a w
@[irreducible] def CodeN (C : Ctx) (c : Code) (k : List It) (st : St) : Prop := ∀ β a w, Sat C.base C.w0 st β a w → c.wp C.P (contQ C.P C.Q k) a w
@[irreducible] def BackN (C : Ctx) (I : Act → World → Prop) (st : St) : Prop := ∀ β a w, Sat C.base C.w0 st β a w → I a w
@[irreducible] def StopN (C : Ctx) (k : List It) (st : St) : Prop := ∀ β a w, Sat C.base C.w0 st β a w → contQ C.P C.Q k .normal a w
def guardV (all : List Oper) (fr : List (Nat × SV)) (j : Nat) : Option (Nat × SV) := match all[j]? with
  | some ⟨some t, _, _, _, _, _⟩ => (match get fr t with
    | some v => some (t, v)
    | none => none)
  | _ => none
/-- operations that make or write what is no block of cells -/
def opMk : Op → Bool
  | .alloc _ => true
  | .box _ _ => true
  | .buildSlice _ _ _ => true
  | .makeSlice _ _ _ => true
  | .makeMap _ _ => true
  | .mapUpdate _ _ _ _ => true
  | .insert _ _ _ _ => true
  | .range _ _ => true
  | .next _ _ => true
  | .call ⟨.builtin b, _, _⟩ => match b with
    | .append => true
    | .copy => true
    | .clear => true
    | .delete => true
    | _ => false
  | _ => false
/-- a region that draws its order and only reads -/
def qOps : List Oper → Bool
  | [] => true
  | ⟨_, op, _, _, _, _⟩ :: r => match op with
    | .store _ _ _ => false
    | op => match opMk op with
      | true => false
      | false => qOps r
/-- a region that draws its order and makes nothing -/
def dOps : List Oper → Bool
  | [] => true
  | ⟨_, op, _, _, _, _⟩ :: r => match opMk op with
    | true => false
    | false => dOps r
def rdS (C : Ctx) (o : Oper) (st : St) (K : St → Prop) : Prop := match o, st with
  | ⟨dst, .call ⟨.value fo, ⟨args⟩, _⟩, _, _, _, _⟩, ⟨fr, rows, nx, n⟩ => match ev fr fo with
    | some (.fn fid []) => evs fr args (fun vs => ∃ v : SV, entersB C.P fid = true ∧ v.ok nx ∧ (∀ β w, Mem C.base C.w0 rows nx β w → Calls C.P fid (SV.dens β vs).toArray w fun e w' => e = .returned (v.den β) ∧ Below w.heap.size w w') ∧ putD dst v ⟨fr, rows, nx, n⟩ K)
    | _ => False
  | ⟨dst, op, _, _, _, _⟩, ⟨fr, rows, nx, n⟩ => evVal C op fr rows (fun v => putD dst v ⟨fr, rows, nx, n⟩ K)
def wpQ (C : Ctx) (all : List Oper) : Nat → List Oper → St → (St → Prop) → Prop
  | 0, _, _, _ => False
  | _ + 1, [], st, K => K st
  | f + 1, ⟨dst, op, ty, pos, after, g⟩ :: l, st, K => match g with
    | none => rdS C ⟨dst, op, ty, pos, after, g⟩ st (fun st' => wpQ C all f l st' K)
    | some (j, want) => match guardV all st.fr j with
      | some (_, .lit b) => bif b == want then rdS C ⟨dst, op, ty, pos, after, g⟩ st (fun st' => wpQ C all f l st' K) else putD dst (.tup []) st (fun st' => wpQ C all f l st' K)
      | some (_, .tup _) => putD dst (.tup []) st (fun st' => wpQ C all f l st' K)
      | some (t, v) => br v (wpQ C all f (⟨dst, op, ty, pos, after, g⟩ :: l) (st.put t (.lit true)) K) (wpQ C all f (⟨dst, op, ty, pos, after, g⟩ :: l) (st.put t (.lit false)) K)
      | none => False
/-- what an operation writes -/
inductive Wr where
  | slot (d : Nat) (v : SV)
  | cells (r off : Nat) (vs : List SV)
  | nop
abbrev Rec := Wr × Option (Nat × Nat × Nat)
def applyW : Wr → St → St
  | .slot d v, ⟨fr, rows, nx, n⟩ => ⟨(d, v) :: fr, rows, nx, n⟩
  | .cells r off vs, ⟨fr, rows, nx, n⟩ => match get rows r with
    | some (o, .cells t cs) => ⟨fr, (r, o, .cells t (splice cs off vs)) :: rows, nx, n⟩
    | _ => ⟨fr, rows, nx, n⟩
  | .nop, st => st
def applyF (W : Wr) (st : St) (K : St → Prop) : Prop := match W, st with
  | .slot d v, ⟨fr, rows, nx, n⟩ => K ⟨(d, v) :: fr, rows, nx, n⟩
  | .cells r off vs, ⟨fr, rows, nx, n⟩ => match get rows r with
    | some (o, .cells t cs) => forceL (splice cs off vs) (fun l => K ⟨fr, (r, o, .cells t l) :: rows, nx, n⟩)
    | _ => K ⟨fr, rows, nx, n⟩
  | .nop, st => K st
def rdOf (E : Env) (op : Op) (fr : List (Nat × SV)) : Option (Nat × Nat × Nat) := match op with
  | .load t x => match ev fr x, get E t with
    | some (.ptr i off), some ⟨_, sz, _, _⟩ => some (i, off, sz)
    | _, _ => none
  | _ => none
def putW (d : Option Nat) (v : SV) (n : Nat) (K : Wr → Prop) : Prop := match d with
  | some d => bif Nat.blt d n then K (.slot d v) else False
  | none => False
def goD (C : Ctx) (dst : Option Nat) (op : Op) (st : St) (K : Wr → Prop) : Prop := match st with
  | ⟨fr, rows, nx, n⟩ => match op with
    | .store t x y => match ev fr x, ev fr y, get C.E t with
      | some (.ptr i off), some v, some ⟨_, sz, _, _⟩ => match cellsSV v, get rows i, dst with
        | some vs, some (true, .cells _ cs), none => bif (Nat.beq vs.length sz && Nat.ble (off + sz) cs.length) && allOne vs then K (.cells i off vs) else False
        | _, _, _ => False
      | _, _, _ => False
    | .call ⟨.value fo, ⟨args⟩, _⟩ => match ev fr fo with
      | some (.fn fid []) => evs fr args (fun vs => ∃ v : SV, entersB C.P fid = true ∧ v.ok nx ∧ (∀ β w, Mem C.base C.w0 [] nx β w → Calls C.P fid (SV.dens β vs).toArray w fun e w' => e = .returned (v.den β) ∧ Below w.heap.size w w') ∧ putW dst v n K)
      | _ => False
    | op => evVal C op fr rows (fun v => putW dst v n K)
def skipD (d : Option Nat) (n : Nat) (K : Wr → Prop) : Prop := match d with
  | some d => bif Nat.blt d n then K (.slot d (.tup [])) else False
  | none => K .nop
def stepD (C : Ctx) (all : List Oper) (o : Oper) (st : St) (K : Wr → Prop) : Prop := match o with
  | ⟨dst, op, _, _, _, g⟩ => match g with
    | none => goD C dst op st K
    | some (j, want) => match guardV all st.fr j with
      | some (_, .lit b) => bif b == want then goD C dst op st K else skipD dst st.n K
      | some (_, .tup _) => skipD dst st.n K
      | _ => False
def isG (j : Nat) : List Oper → Bool
  | [] => false
  | ⟨_, _, _, _, _, some (i, _)⟩ :: r => (match Nat.beq i j with
    | true => true
    | false => isG j r)
  | _ :: r => isG j r
def splitG (g : Bool) (W : Wr) (K : Wr → Prop) : Prop := match g, W with
  | true, .slot d (.bool b) => (b = true → K (.slot d (.lit true))) ∧ (b = false → K (.slot d (.lit false)))
  | true, .slot d (.prop p _) => (p → K (.slot d (.lit true))) ∧ (¬ p → K (.slot d (.lit false)))
  | _, W => K W
def wpD (C : Ctx) (all : List Oper) : List Oper → Nat → St → List Rec → (List Rec → St → Prop) → Prop
  | [], _, st, acc, K => K acc st
  | ⟨dst, op, ty, pos, after, g⟩ :: l, j, st, acc, K => stepD C all ⟨dst, op, ty, pos, after, g⟩ st (fun W => splitG (isG j all) W (fun W' => applyF W' st (fun st' => wpD C all l (j + 1) st' ((W', rdOf C.E op st.fr) :: acc) K)))
/-- types' sizes are not nothing -/
def szOK : Env → Bool
  | [] => true
  | (_, ⟨_, sz, ag, _⟩) :: r => (ag || !Nat.beq sz 0) && szOK r
def wr : Wr → Option (Nat × Nat × Nat)
  | .cells r off vs => some (r, off, vs.length)
  | _ => none
def ovl : Option (Nat × Nat × Nat) → Option (Nat × Nat × Nat) → Bool
  | some (r, off, l), some (r', off', l') => Nat.beq r r' && (Nat.blt off (off' + l') && Nat.blt off' (off + l))
  | _, _ => false
def conf (all : List Oper) (a b : Oper) (A B : Rec) : Bool := !(a.apart all.toArray b) || (ovl (wr A.1) B.2 || (ovl (wr B.1) A.2 || ovl (wr A.1) (wr B.1)))
def ancB (all : List Oper) : Nat → Nat → Nat → Bool
  | 0, _, _ => false
  | f + 1, i, j => match all[j]? with
    | some o => o.after.toList.any fun e => Region.binds .any e && (Nat.beq e.on i || ancB all f i e.on)
    | none => false
def allB (m : Nat) (p : Nat → Bool) : Bool := match m with
  | 0 => true
  | m + 1 => p m && allB m p
def pairB (all : List Oper) (Rs : List Rec) (i j : Nat) : Bool := match all[i]?, all[j]?, Rs[i]?, Rs[j]? with
  | some a, some b, some A, some B => !conf all a b A B || ancB all 12 i j
  | _, _, _, _ => true
def edgesB (all : List Oper) (j : Nat) : Bool := match all[j]? with
  | some o => o.after.toList.all fun e => !Region.binds .any e || Nat.blt e.on j
  | none => true
/-- whatever order is drawn, what is done is the same -/
def chk (all : List Oper) (Rs : List Rec) : Bool := allB all.length fun j => edgesB all j && allB j fun i => pairB all Rs i j
/-- an operation that is given to a lemma, world and all -/
@[irreducible] def XopN (C : Ctx) (all l : List Oper) (k : List It) (o : Oper) (st : St) : Prop := ∀ β a w, Sat C.base C.w0 st β a w → o.wp C.P a w (wpList C.P all.toArray (contQ C.P C.Q k) l) (contQ C.P C.Q k)
def rawD (C : Ctx) (dst : Option Nat) : Bool := match dst with
  | some d => mem (d + 100000) C.sc
  | none => false
def rawB (C : Ctx) (fr : List (Nat × SV)) (dst : Option Nat) : Op → Bool
  | .buildSlice _ _ _ => true
  | .makeSlice _ _ _ => true
  | .makeMap _ _ => true
  | .mapUpdate _ _ _ _ => true
  | .insert _ _ _ _ => true
  | .range _ _ => true
  | .next _ _ => true
  | .store _ x _ => isAnyO (ev fr x)
  | .call ⟨.builtin b, _, _⟩ => match b with
    | .append => true
    | .copy => true
    | .clear => true
    | .delete => true
    | _ => rawD C dst
  | _ => rawD C dst
def opS (C : Ctx) (all l : List Oper) (k : List It) (o : Oper) (st : St) (K : St → Prop) : Prop := match o with
  | ⟨dst, .call ⟨.value fo, ⟨args⟩, _⟩, _, _, _, _⟩ => match ev st.fr fo with
    | some (.fn fid cs) => evs st.fr args (fun vs => CallN C all l k dst fid (vs ++ cs) st)
    | _ => False
  | ⟨dst, op, ty, pos, after, g⟩ => match rawB C st.fr dst op with
    | true => XopN C all l k ⟨dst, op, ty, pos, after, g⟩ st
    | false => evOp C ⟨dst, op, ty, pos, after, g⟩ st K
/-- a call in a region that is walked order by order -/
@[irreducible] def CallX (C : Ctx) (dst : Option Nat) (f : FuncId) (args : List SV) (st : St) (K : St → Prop) : Prop :=
  entersB C.P f = true ∧ ∀ β a w, Sat C.base C.w0 st β a w → Calls C.P f (SV.dens β args).toArray w fun e w' => ∃ v st' β', e = .returned v ∧ K st' ∧ Sat C.base C.w0 st' β' (a.put dst v) w'
/-- an operation that is given to a lemma, whatever follows -/
@[irreducible] def OpX (C : Ctx) (o : Oper) (st : St) (K : St → Prop) : Prop := ∀ β a w, Sat C.base C.w0 st β a w → ∀ (next : Act → World → Prop) (Q : Exit → Act → World → Prop), (∀ st' β' a' w', K st' → Sat C.base C.w0 st' β' a' w' → next a' w') → o.wp C.P a w next Q
def stepX (C : Ctx) (o : Oper) (st : St) (K : St → Prop) : Prop := match o with
  | ⟨dst, .call ⟨.value fo, ⟨args⟩, _⟩, _, _, _, _⟩ => match ev st.fr fo with
    | some (.fn fid cs) => evs st.fr args (fun vs => CallX C dst fid (vs ++ cs) st K)
    | _ => False
  | ⟨dst, op, ty, pos, after, g⟩ => match rawB C st.fr dst op with
    | true => OpX C ⟨dst, op, ty, pos, after, g⟩ st K
    | false => evOp C ⟨dst, op, ty, pos, after, g⟩ st K
/-- operations that ask nothing of the world -/
def pureOp (fr : List (Nat × SV)) : Op → Bool
  | .move _ => true
  | .assign _ => true
  | .pick _ _ _ => true
  | .build _ _ => true
  | .fieldAddr _ _ _ => true
  | .indexAddr _ _ _ => true
  | .unOp _ _ _ => true
  | .extract _ _ => true
  | .makeFunc _ _ _ => true
  | .slice _ _ _ _ _ => true
  | .binOp _ _ x _ _ => !isAnyO (ev fr x)
  | .index _ _ _ => true
  | .convert _ _ x => !isAnyO (ev fr x)
  | .call ⟨.builtin b, _, _⟩ => match b with
    | .len => true
    | .cap => true
    | .max => true
    | .min => true
    | _ => false
  | _ => false
inductive GX where
  | go
  | skip
  | split (t : Nat) (v : SV)
  | bad
def guardX (all : List Oper) (fr : List (Nat × SV)) : Option (Nat × Bool) → GX
  | none => .go
  | some (j, want) => match guardV all fr j with
    | some (_, .lit b) => match b == want with
      | true => .go
      | false => .skip
    | some (_, .tup _) => .skip
    | some (t, v) => .split t v
    | none => .bad
def rdyB (ls : List Bool) (i : Nat) (o : Oper) : Bool := !ls.getD i true && o.after.toList.all (fun e => !Region.binds .any e || ls.getD e.on false)
def freeB (all : List Oper) (ls : List Bool) (oi : Oper) (i : Nat) : List Oper → Nat → Bool
  | [], _ => true
  | oj :: r, j => (Nat.beq j i || (ls.getD j true || (oj.after.toList.any (fun e => Region.binds .any e && Nat.beq e.on i) || oi.apart all.toArray oj))) && freeB all ls oi i r (j + 1)
/-- rows that a region is to leave alone: cells that no store names -/
def tgt (fr : List (Nat × SV)) : List Oper → List Nat
  | [] => []
  | ⟨_, op, _, _, _, _⟩ :: r => match op with
    | .store _ x _ => (match ev fr x with
      | some (.ptr i _) => i :: tgt fr r
      | _ => tgt fr r)
    | _ => tgt fr r
def roF (ts : List Nat) : List (Nat × Bool × SRow) → (List (Nat × Bool × SRow) → Prop) → Prop
  | [], K => K []
  | (i, o, .cells t cs) :: r, K => match mem i ts with
    | true => roF ts r K
    | false => roF (i :: ts) r (fun l => K ((i, o, .cells t cs) :: l))
  | (i, _, .blob _) :: r, K => roF (i :: ts) r K
def keepR : List (Nat × Bool × SRow) → List (Nat × Bool × SRow) → Prop → Prop
  | [], _, K => K
  | (i, x) :: r, rows, K => get rows i = some x ∧ keepR r rows K
def loadB (ro : List (Nat × Bool × SRow)) (fr : List (Nat × SV)) : Op → Bool
  | .load _ x => match ev fr x with
    | some (.ptr i _) => (match get ro i with
      | some _ => true
      | none => false)
    | _ => false
  | _ => false
def takeB (C : Ctx) (ro : List (Nat × Bool × SRow)) (all : List Oper) (ls : List Bool) (fr : List (Nat × SV)) (i : Nat) (o : Oper) : Bool := match guardX all fr o.guard with
  | .go => match rawD C o.dst with
    | true => false
    | false => match pureOp fr o.op || loadB ro fr o.op with
      | true => freeB all ls o i all 0
      | false => false
  | .skip => freeB all ls o i all 0
  | .split _ _ => true
  | .bad => false
def pickX (C : Ctx) (ro : List (Nat × Bool × SRow)) (all : List Oper) (ls : List Bool) (fr : List (Nat × SV)) : List Oper → Nat → Option (Nat × Oper)
  | [], _ => none
  | o :: r, i => match rdyB ls i o with
    | true => match takeB C ro all ls fr i o with
      | true => some (i, o)
      | false => pickX C ro all ls fr r (i + 1)
    | false => pickX C ro all ls fr r (i + 1)
def someX (ls : List Bool) : List Oper → Nat → Bool
  | [], _ => false
  | o :: r, i => match rdyB ls i o with
    | true => true
    | false => someX ls r (i + 1)
def noneX : List Bool → Bool
  | [] => true
  | b :: r => match b with
    | true => noneX r
    | false => false
@[irreducible] def bothX (p q : Prop) : Prop := p ∧ q
/-- whichever comes up -/
def expX (all : List Oper) (ls : List Bool) (fr : List (Nat × SV)) (T : Nat → Oper → Prop) : List Oper → Nat → Prop
  | [], _ => True
  | o :: r, i => match rdyB ls i o with
    | true => match guardX all fr o.guard with
      | .go => bothX (T i o) (expX all ls fr T r (i + 1))
      | _ => False
    | false => expX all ls fr T r (i + 1)
def putO (d : Option Nat) (v : SV) (st : St) (K : St → Prop) : Prop := match d with
  | some d => putD (some d) v st K
  | none => K st
def wpX (C : Ctx) (ro : List (Nat × Bool × SRow)) (all : List Oper) : Nat → List Bool → St → (St → Prop) → Prop
  | 0, _, _, _ => False
  | f + 1, ls, st, K => match pickX C ro all ls st.fr all 0 with
    | some (i, o) => match guardX all st.fr o.guard with
      | .go => evVal C o.op st.fr ro (fun v => putD o.dst v st (fun st' => wpX C ro all f (ls.set i true) st' K))
      | .skip => putO o.dst (.tup []) st (fun st' => wpX C ro all f (ls.set i true) st' K)
      | .split t v => br v (wpX C ro all f ls (st.put t (.lit true)) K) (wpX C ro all f ls (st.put t (.lit false)) K)
      | .bad => False
    | none => match noneX ls with
      | true => K st
      | false => match someX ls all 0 with
        | true => expX all ls st.fr (fun i o => stepX C o st (fun st' => keepR ro st'.rows (wpX C ro all f (ls.set i true) st' K))) all 0
        | false => False
/-- the walk within a region, blocks that are named now held fast -/
def Ctx.at (C : Ctx) (βe : Nat → Nat) (nx : Nat) : Ctx := ⟨C.P, C.E, C.base, ⟨C.w0.w, βe, nx, C.w0.pr⟩, C.fn, C.res, C.R, C.sc, C.sb⟩
@[irreducible] def AllBe (p : (Nat → Nat) → Prop) : Prop := ∀ βe, p βe
def wpY (C : Ctx) (l : List Oper) (st : St) (K : St → Prop) : Prop := AllBe fun βe => roF (tgt st.fr l) st.rows (fun ro => wpX (C.at βe st.next) ro l 1000 (l.map fun _ => false) st K)
def wpS (C : Ctx) : Nat → List It → St → Prop
  | 0, k, st => StopN C k st
  | _ + 1, [], st => retS C st
  | f + 1, .inBlk _ :: k, st => wpS C f k st
  | _ + 1, .back I :: _, st => BackN C I st
  | f + 1, .ops all l :: k, st => match l with
    | [] => wpS C f k st
    | o :: l => match o with
      | ⟨dst, op, ty, pos, after, g⟩ =>
        let go : Prop := opS C all l k ⟨dst, op, ty, pos, after, g⟩ st (fun st' => wpS C f (.ops all l :: k) st')
        match g with
        | none => go
        | some (j, want) => match guardV all st.fr j with
          | some (_, .lit b) => bif b == want then go else putD dst (.tup []) st (fun st' => wpS C f (.ops all l :: k) st')
          | some (_, .tup _) => putD dst (.tup []) st (fun st' => wpS C f (.ops all l :: k) st')
          | some (t, v) => br v (wpS C f (.ops all (⟨dst, op, ty, pos, after, g⟩ :: l) :: k) (st.put t (.lit true))) (wpS C f (.ops all (⟨dst, op, ty, pos, after, g⟩ :: l) :: k) (st.put t (.lit false)))
          | none => False
  | f + 1, .code c :: k, st => match c with
    | .skip => wpS C f k st
    | .label _ => wpS C f k st
    | .seq x y => wpS C f (.code x :: .code y :: k) st
    | .cond c x y => match (match c with | .tmp t => mem t C.sc | _ => false) with
      | true => StopN C (.code (.cond c x y) :: k) st
      | false => match ev st.fr c with
        | some v => br v (wpS C f (.code x :: k) st) (wpS C f (.code y :: k) st)
        | none => False
    | .block id c => match mem id C.sb with
      | true => StopN C (.code (.block id c) :: k) st
      | false => wpS C f (.code c :: .inBlk id :: k) st
    | .exit id => match popTo id k with
      | some k' => wpS C f k' st
      | none => False
    | .ret => retS C st
    | .region id ⟨l⟩ d => match d with
      | false => wpS C f (.ops l l :: k) st
      | true => match mem (id + 300000) C.sb with
        | true => StopN C (.code (.region id ⟨l⟩ d) :: k) st
        | false => match mem (id + 200000) C.sb with
          | true => Region.noSelect l.toArray = true ∧ wpY C l st (fun st' => wpS C f k st')
          | false => match mem (id + 100000) C.sb with
            | true => Region.noSelect l.toArray = true ∧ wpX C [] l 1000 (l.map fun _ => false) st (fun st' => wpS C f k st')
            | false => match qOps l with
              | true => Region.lexB .any l.toArray = true ∧ wpQ C l 1000 l st (fun st' => wpS C f k st')
              | false => match dOps l with
                | true => wpD C l l 0 st [] (fun acc st' => (chk l acc.reverse && szOK C.E) = true ∧ wpS C f k st')
                | false => Region.noSelect l.toArray = true ∧ wpX C [] l 1000 (l.map fun _ => false) st (fun st' => wpS C f k st')
    | .loop c => LoopN C c k st
    | c => CodeN C c k st
/-- two values are one -/
def bval : SV → Bool
  | .lit b => b
  | .bool b => b
  | .prop p h => @decide p h
  | _ => false
def isB : SV → Bool
  | .lit _ => true
  | .bool _ => true
  | .prop _ _ => true
  | _ => false
def eqSV : SV → SV → Prop
  | .int k n, .int k' m => bif ikEq k k' then n = m else False
  | .str s, .str t => s = t
  | .ptr i o, .ptr j o' => i = j ∧ o = o'
  | .fn f cs, .fn g ds => f = g ∧ cs = ds
  | .any v, .any w => v = w
  | .agg [], .agg [] => True
  | .agg (u :: r), .agg (v :: s) => eqSV u v ∧ eqSV (.agg r) (.agg s)
  | .tup [], .tup [] => True
  | .tup (u :: r), .tup (v :: s) => eqSV u v ∧ eqSV (.tup r) (.tup s)
  | .lit b, v => bif isB v then b = bval v else False
  | .bool b, v => bif isB v then b = bval v else False
  | .prop p h, v => bif isB v then @decide p h = bval v else False
  | _, _ => False
def eqL : List SV → List SV → Prop
  | [], [] => True
  | u :: r, v :: s => eqSV u v ∧ eqL r s
  | _, _ => False
/-- what is known of the slots and blocks, weakened to st' -/
def wkF (fr : List (Nat × SV)) (nx : Nat) : List (Nat × SV) → Prop
  | [] => True
  | (s, v) :: r => (match get fr s with
    | some u => eqSV u v ∧ v.ok nx
    | none => False) ∧ wkF fr nx r
def wkR (rows : List (Nat × Bool × SRow)) (nx : Nat) : List (Nat × Bool × SRow) → Prop
  | [] => True
  | (i, o, .cells t cs) :: r => (match get rows i with
    | some (o', .cells t' cs') => (bif Nat.beq t' t && (o == o') then Nat.blt i nx = true ∧ eqL cs' cs ∧ SV.oks nx cs else False)
    | _ => False) ∧ wkR rows nx r
  | (i, o, .blob Φ) :: r => (match get rows i with
    | some (o', .blob Ψ) => (bif o == o' then Nat.blt i nx = true ∧ (∀ b x, Ψ b x → Φ b x) else False)
    | _ => False) ∧ wkR rows nx r
def wk : St → St → Prop
  | ⟨fr, rows, nx, n⟩, ⟨fr', rows', nx', n'⟩ => bif Nat.beq n n' && Nat.ble nx' nx then wkF fr nx' fr' ∧ wkR rows nx' rows' else False
end Sym
end Go.Proofs.YtnbahdnjcdimgaaDoor
