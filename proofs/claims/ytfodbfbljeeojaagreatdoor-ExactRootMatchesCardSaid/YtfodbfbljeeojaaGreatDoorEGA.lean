/- Blocks of cells and what keeps them: words for the contracts' worlds. A whole block stored cell by cell. Strings as lists of bytes: words for the contracts. -/
import Derived.WalkKit
import Derived.Lib.Hide
import Derived.Handy
import Derived.WalkSmall
import Derived.BigQuiet
import Derived.Deep.QuietTactic
import Derived.Laws.CopyOwn
import Derived.Test.YtfodbfbljeeojaaGreatDoorRows
import Derived.WalkLawsBesides
import Derived.Deep.CutBlock
import Derived.Deep.DeepCutAuto
import Derived.OwnWalk
import Derived.Shelf.Abstract
set_option linter.unusedSimpArgs false
set_option linter.unusedVariables false
namespace Go.Proofs.YtfodbfbljeeojaaGreatDoor
open Go.RowKit
/-- a fact kept from the walk: a structure, so that nothing unfolds it -/
structure Bx (p : Prop) : Prop where
  out : p
/-- block b holds the cells cs, written freely -/
def Row (w : World) (b : Nat) (t : TypeId) (cs : Array Value) : Prop := w.heap[b]? = some (.cells cs t (0, 0))
theorem Row.cell {w : World} {b : Nat} {t : TypeId} {cs : Array Value} (h : Row w b t cs) (j : Nat) : w.cell? ⟨b, j, none⟩ = cs[j]? := cell_of_row _ _ _ _ _ _ h
theorem Row.frozen {w : World} {b : Nat} {t : TypeId} {cs : Array Value} (h : Row w b t cs) (j : Nat) : w.frozen? ⟨b, j, none⟩ = false := frozen_of_row _ _ _ _ _ h
theorem Row.lt {w : World} {b : Nat} {t : TypeId} {cs : Array Value} (h : Row w b t cs) : b < w.heap.size := by
  unfold Row at h
  rcases Nat.lt_or_ge b w.heap.size with h' | h'
  · exact h'
  · rw [Array.getElem?_eq_none h'] at h; cases h
theorem Row.set {w : World} {b : Nat} {t : TypeId} {cs : Array Value} (h : Row w b t cs) (j : Nat) (v : Value) : Row (w.setCell ⟨b, j, none⟩ v) b t (cs.setIfInBounds j v) := heap_setCell_same _ _ _ _ _ _ h
theorem Row.other {w : World} {b : Nat} {t : TypeId} {cs : Array Value} (h : Row w b t cs) {a : Addr} (ha : a.block ≠ b) (v : Value) : Row (w.setCell a v) b t cs := by
  unfold Row
  rw [heap_setCell_other _ _ _ _ (fun e => ha e.symm)]; exact h
theorem Row.drew {w : World} {b : Nat} {t : TypeId} {cs : Array Value} (h : Row w b t cs) : Row w.drew b t cs := h
theorem Row.drewN {w : World} {b : Nat} {t : TypeId} {cs : Array Value} (h : Row w b t cs) (n : Nat) : Row (w.drewN n) b t cs := h
theorem Row.alloc {w : World} {b : Nat} {t : TypeId} {cs : Array Value} (h : Row w b t cs) (o : Obj) : Row (w.alloc o) b t cs := by
  unfold Row
  rw [Below.heap_alloc _ _ _ h.lt]; exact h
theorem Row.new (w : World) (t : TypeId) (cs : Array Value) : Row (w.alloc (.cells cs t)) w.heap.size t cs := heap_alloc_new _ _
theorem Row.below {w w' : World} {B b : Nat} {t : TypeId} {cs : Array Value} (h : Row w b t cs) (hb : Below B w w') (hB : b < B) : Row w' b t cs := by
  unfold Row
  rw [hb.block b hB]; exact h
theorem Row.same {w : World} {b : Nat} {t : TypeId} {cs cs' : Array Value} (h : Row w b t cs) (e : cs = cs') : Row w b t cs' := e ▸ h

/-- w' is w with new blocks; of the old ones only those in S may have turned -/
structure Keep (S : Nat → Prop) (w w' : World) : Prop where
  os : w'.os = w.os
  tape : w'.tape = w.tape
  output : w'.output = w.output
  size : w.heap.size ≤ w'.heap.size
  block : ∀ k, k < w.heap.size → ¬ S k → w'.heap[k]? = w.heap[k]?
theorem Keep.refl (S : Nat → Prop) (w : World) : Keep S w w := ⟨rfl, rfl, rfl, Nat.le_refl _, fun _ _ _ => rfl⟩
theorem Keep.trans {S : Nat → Prop} {a b c : World} (h : Keep S a b) (k : Keep S b c) : Keep S a c :=
  ⟨k.os.trans h.os, k.tape.trans h.tape, k.output.trans h.output, Nat.le_trans h.size k.size, fun i hi hs => (k.block i (Nat.lt_of_lt_of_le hi h.size) hs).trans (h.block i hi hs)⟩
theorem Keep.mono {S T : Nat → Prop} {w w' : World} (h : Keep S w w') (hs : ∀ k, k < w.heap.size → S k → T k) : Keep T w w' :=
  ⟨h.os, h.tape, h.output, h.size, fun k hk ht => h.block k hk (fun s => ht (hs k hk s))⟩
theorem Keep.drew {S : Nat → Prop} {a w : World} (h : Keep S a w) : Keep S a w.drew := ⟨h.os, h.tape, h.output, h.size, h.block⟩
theorem Keep.drewN {S : Nat → Prop} {a w : World} (h : Keep S a w) (n : Nat) : Keep S a (w.drewN n) := ⟨h.os, h.tape, h.output, h.size, h.block⟩
theorem Keep.alloc {S : Nat → Prop} {a w : World} (h : Keep S a w) (o : Obj) : Keep S a (w.alloc o) :=
  ⟨h.os, h.tape, h.output, by have := h.size; simp; omega, fun k hk hs => (Below.heap_alloc w o k (Nat.lt_of_lt_of_le hk h.size)).trans (h.block k hk hs)⟩
theorem Keep.setCell {S : Nat → Prop} {a w : World} (h : Keep S a w) {p : Addr} (hp : p.block < a.heap.size → S p.block) (u : Value) : Keep S a (w.setCell p u) :=
  ⟨h.os, h.tape, h.output, by have := h.size; simp [World.setCell]; omega, fun k hk hs => by
    rw [Below.heap_setCell _ _ _ _ (fun e => hs (by subst e; exact hp hk))]; exact h.block k hk hs⟩
theorem Keep.below {S : Nat → Prop} {w w' : World} (h : Keep S w w') {B : Nat} (hB : B ≤ w.heap.size) (hS : ∀ k, k < B → ¬ S k) : Below B w w' :=
  ⟨h.os, h.tape, h.output, h.size, fun k hk => h.block k (Nat.lt_of_lt_of_le hk hB) (hS k hk)⟩
theorem Keep.row {S : Nat → Prop} {w w' : World} (h : Keep S w w') {b : Nat} {t : TypeId} {cs : Array Value} (hr : Row w b t cs) (hS : ¬ S b) : Row w' b t cs := by
  unfold Row
  rw [h.block b hr.lt hS]; exact hr
theorem Keep.ofBelow {w w' : World} {B : Nat} (h : Below B w w') {S : Nat → Prop} (hS : ∀ k, k < w.heap.size → ¬ S k → k < B) : Keep S w w' :=
  ⟨h.os, h.tape, h.output, h.size, fun k hk hs => h.block k (hS k hk hs)⟩
theorem cell1 (w : World) (x : Value) (t : TypeId) : ∀ j u, [x][j]? = some u → (w.alloc (.cells #[x] t)).cell? ((⟨w.heap.size, 0, none⟩ : Addr).add j) = some u := by
  intro j u h
  match j with
  | 0 =>
    have e : u = x := by simpa using h.symm
    subst e
    simp [Addr.add]
  | j + 1 => simp at h
theorem grown_cell {w w1 : World} {o : Obj} {r : Option Nat} (hg : (w.alloc o).grownBy w1 r) {b : Nat} (hb : b < w.heap.size) (hr : r ≠ some b) (i : Nat) : w1.cell? ⟨b, i, none⟩ = w.cell? ⟨b, i, none⟩ :=
  World.cell?_of_block (w := w) ((hg.block b (by simp; omega) (fun e => hr e.symm)).trans (Below.heap_alloc _ _ _ hb))
theorem grown_frozen {w w1 : World} {o : Obj} {r : Option Nat} (hg : (w.alloc o).grownBy w1 r) {b : Nat} (hb : b < w.heap.size) (hr : r ≠ some b) (i : Nat) : w1.frozen? ⟨b, i, none⟩ = w.frozen? ⟨b, i, none⟩ :=
  World.frozen?_of_block (w := w) ((hg.block b (by simp; omega) (fun e => hr e.symm)).trans (Below.heap_alloc _ _ _ hb))
/-- an owned row of one-cell elements, read: its block, and each cell -/
theorem owns_read {w : World} {base : Nat} {e : TypeId} {n : Nat} {v : Value} {xs : List Value} (h : w.ownsRow base e 1 v n xs) (hn : 0 < n) :
    ∃ g cap, v = .slice (some ⟨g, 0, none⟩) n cap ∧ base ≤ g ∧ n ≤ cap ∧ (∀ j, j < n → w.cell? ⟨g, j, none⟩ = xs[j]?) ∧ (∀ j, w.frozen? ⟨g, j, none⟩ = false) := by
  rcases h.2 with ⟨_, h2⟩ | ⟨g, cap, cur, h1, hb, hg, hc, _, hs, ht⟩
  · omega
  · refine ⟨g, cap, h1, hb, hc, fun j hj => ?_, fun j => frozen_of_row _ _ _ _ _ hg⟩
    rw [cell_of_row _ _ _ _ _ _ hg, ← ht, List.getElem?_take, if_pos (by omega), Array.getElem?_toList]
def lenOf : Value → Nat | .slice _ n _ => n | _ => 0
def bvals (l : List UInt8) : List Value := l.map fun b => Value.int .u8 (b.toNat : Int)
theorem bvals_append (a b : List UInt8) : bvals (a ++ b) = bvals a ++ bvals b := by simp [bvals]
theorem bvals_one (b : UInt8) : bvals [b] = [.int .u8 (b.toNat : Int)] := rfl
theorem owns_keep {S : Nat → Prop} {w w' : World} {base : Nat} {e : TypeId} {size n : Nat} {v : Value} {xs : List Value} (h : w.ownsRow base e size v n xs) (k : Keep S w w') (hS : ∀ j, v.ownBlock = some j → ¬ S j) : w'.ownsRow base e size v n xs := by
  obtain ⟨h4, h5⟩ := h
  refine ⟨h4, ?_⟩
  rcases h5 with h5 | ⟨g, cap, cur, hv, hb, hg, r⟩
  · exact .inl h5
  · refine .inr ⟨g, cap, cur, hv, hb, ?_, r⟩
    exact k.row (b := g) (t := e) (cs := cur) hg (hS g (by rw [hv]; rfl))
theorem owns_below {w : World} {base : Nat} {e : TypeId} {size n : Nat} {v : Value} {xs : List Value} (h : w.ownsRow base e size v n xs) : ∀ k, v.ownBlock = some k → base ≤ k := by
  intro k hk
  rcases h.2 with ⟨h1, _⟩ | ⟨g, cap, cur, h1, hb, _⟩
  · subst h1; cases hk
  · subst h1; cases hk; exact hb
theorem keep_grown {S : Nat → Prop} {a w w' : World} {r : Option Nat} (h : Keep S a w) (o : Obj) (hg : (w.alloc o).grownBy w' r) (hr : ∀ k, r = some k → a.heap.size ≤ k) : Keep S a w' :=
  ⟨hg.os.trans h.os, hg.tape.trans h.tape, hg.output.trans h.output, by have := hg.size; have := h.size; simp at *; omega, fun k hk hs => by
    have hk2 := Nat.lt_of_lt_of_le hk h.size
    rw [hg.block k (by simp; omega) (fun e => by have := hr k e.symm; omega), Below.heap_alloc _ _ _ hk2]
    exact h.block k hk hs⟩
/-- an owned row of bytes, turned into a string -/
theorem owned_string {P : Program} {w : World} {base : Nat} {src dst e : TypeId} {v : Value} {l : List UInt8} (hs : P.underlying src = some (.slice e)) (he : P.underlying e = some (.int .u8)) (hd : P.underlying dst = some .string)
    (h : w.ownsRow base e 1 v l.length (bvals l)) : (convert src dst v).run P w = .ok (.string ⟨l.toArray⟩) w := by
  rcases Nat.eq_zero_or_pos l.length with h0 | h0
  · have hl : l = [] := List.length_eq_zero_iff.1 h0
    subst hl
    rcases h.2 with ⟨h1, _⟩ | ⟨g, cap, cur, h1, _⟩
    · subst h1; exact run_convert_bytes_nil w src e hs he 0 0 dst hd
    · subst h1; exact run_convert_bytes_back w src dst e ⟨g, 0, none⟩ cap [] hs he hd (fun j hj => by simp at hj)
  · obtain ⟨g, cap, hv, _, _, hc, _⟩ := owns_read h h0
    subst hv
    refine run_convert_bytes_back w src dst e ⟨g, 0, none⟩ cap l hs he hd (fun j hj => ?_)
    have ha : (⟨g, 0, none⟩ : Addr).add j = ⟨g, j, none⟩ := by unfold Addr.add; split <;> simp_all
    rw [ha, hc j hj]
    simp [bvals, hj]
theorem Row.grown {w w1 : World} {o : Obj} {r : Option Nat} {b : Nat} {t : TypeId} {cs : Array Value} (h : Row w b t cs) (hg : (w.alloc o).grownBy w1 r) (hr : r ≠ some b) : Row w1 b t cs := by
  unfold Row
  rw [hg.block b (by have := h.lt; simp; omega) (fun e => hr e.symm)]
  exact h.alloc o
theorem owns_nil (w : World) (base : Nat) (e : TypeId) (size : Nat) : w.ownsRow base e size (.slice none 0 0) 0 [] := ⟨by simp, .inl ⟨rfl, rfl⟩⟩
theorem owns_slice {w : World} {base : Nat} {e : TypeId} {size n : Nat} {v : Value} {xs : List Value} (h : w.ownsRow base e size v n xs) : ∃ a c, v = .slice a n c := by
  rcases h.2 with ⟨h1, h2⟩ | ⟨g, cap, cur, h1, _⟩
  · subst h2; exact ⟨_, _, h1⟩
  · exact ⟨_, _, h1⟩
end Go.Proofs.YtfodbfbljeeojaaGreatDoor
namespace Go.Proofs.YtfodbfbljeeojaaGreatDoor
open Go.RowKit
/-- the cells from i on, stored one by one -/
def setAll (w : World) (b : Nat) : Nat → List Value → World
  | _, [] => w
  | i, v :: r => setAll (w.setCell ⟨b, i, none⟩ v) b (i + 1) r
theorem Row.setAll' {b : Nat} {t : TypeId} : ∀ (vs : List Value) (i : Nat) (w : World) (cs : Array Value), Row w b t cs → i + vs.length = cs.size → Row (setAll w b i vs) b t (cs.toList.take i ++ vs).toArray
  | [], i, w, cs, h, e => by
    have : (cs.toList.take i ++ []).toArray = cs := by
      rw [List.append_nil, List.take_of_length_le (by simp at e; simp; omega)]
    rw [this]; exact h
  | v :: r, i, w, cs, h, e => by
    have h2 := Row.setAll' r (i + 1) (w.setCell ⟨b, i, none⟩ v) _ (h.set i v) (by simp at e ⊢; omega)
    have hi : i < cs.toList.length := by simp at e ⊢; omega
    have : ((cs.setIfInBounds i v).toList.take (i + 1) ++ r) = (cs.toList.take i ++ v :: r) := by
      rw [Array.toList_setIfInBounds, List.take_set, List.take_succ_eq_append_getElem hi, List.set_append_right _ _ (by simp; omega)]
      simp [Nat.min_eq_left (Nat.le_of_lt hi)]
      rw [Nat.min_eq_left (by simp at hi; omega)]; simp
    rw [this] at h2
    exact h2
theorem Row.setAll {b : Nat} {t : TypeId} {w : World} {cs : Array Value} (h : Row w b t cs) (vs : List Value) (e : vs.length = cs.size) : Row (setAll w b 0 vs) b t vs.toArray := by
  have := Row.setAll' vs 0 w cs h (by omega)
  simpa using this
theorem Row.otherAll {b : Nat} {t : TypeId} {c : Nat} {cs : Array Value} (hc : c ≠ b) : ∀ (vs : List Value) (i : Nat) (w : World), Row w c t cs → Row (Go.Proofs.YtfodbfbljeeojaaGreatDoor.setAll w b i vs) c t cs
  | [], _, _, h => h
  | v :: r, i, w, h => Row.otherAll hc r (i + 1) _ (h.other (by dsimp only; omega) v)
theorem Below.setAllB {B b : Nat} (hb : B ≤ b) {a : World} : ∀ (vs : List Value) (i : Nat) (w : World), Below B a w → Below B a (Go.Proofs.YtfodbfbljeeojaaGreatDoor.setAll w b i vs)
  | [], _, _, h => h
  | v :: r, i, w, h => Below.setAllB hb r (i + 1) _ (h.setCell hb v)
end Go.Proofs.YtfodbfbljeeojaaGreatDoor
namespace Go.Proofs.YtfodbfbljeeojaaGreatDoor
open Go.RowKit
def bstr (l : List UInt8) : ByteArray := ⟨l.toArray⟩
theorem bstr_of (s : ByteArray) : ∃ l, s = bstr l := ⟨s.data.toList, rfl⟩
theorem bstr_list (l : List UInt8) : (bstr l).toList = l := by unfold bstr; rw [ByteArray.toList_mk]
theorem bstr_emp (l : List UInt8) : (bstr l).toList.isEmpty = l.isEmpty := by rw [bstr_list]
theorem bstr_size (l : List UInt8) : (bstr l).size = l.length := rfl
theorem bstr_app (a b : List UInt8) : bstr a ++ bstr b = bstr (a ++ b) := by
  apply ByteArray.ext
  simp [bstr]
theorem bstr_add (l : List UInt8) (c : UInt8) : bstr l ++ { data := #[c] } = bstr (l ++ [c]) := bstr_app l [c]
theorem bstr_at (T : List UInt8) (p : Nat) (hp : p < (bstr T).size) : (bstr T)[p] = T.getD p 0 := by
  rw [List.getD_eq_getElem?_getD, List.getElem?_eq_getElem (by simpa [bstr_size] using hp)]
  rfl
theorem bstr_ext (T : List UInt8) (i j : Nat) : (bstr T).extract i j = bstr ((T.take j).drop i) := by
  apply ByteArray.ext
  apply Array.toList_inj.1
  rw [ByteArray.data_extract]
  unfold bstr
  rw [Array.toList_extract, List.extract_eq_take_drop, List.drop_take]
theorem bstr_inj {a b : List UInt8} (h : bstr a = bstr b) : a = b := by
  rw [← bstr_list a, ← bstr_list b, h]
theorem conv1 {P : Program} {src dst e : TypeId} (hs : P.underlying src = some (.slice e)) (he : P.underlying e = some (.int .u8)) (hd : P.underlying dst = some .string) (w : World) (c : Nat) (hc : c < 256) :
    (convert src dst (.slice (some ⟨w.heap.size, 0, none⟩) 1 1)).run P (w.alloc (.cells #[.int .u8 (c : Int)] e)) = .ok (.string (bstr [UInt8.ofNat c])) (w.alloc (.cells #[.int .u8 (c : Int)] e)) := by
  refine run_convert_bytes_back _ src dst e ⟨w.heap.size, 0, none⟩ 1 [UInt8.ofNat c] hs he hd (fun j hj => ?_)
  have hj0 : j = 0 := by simpa using hj
  subst hj0
  have ha : (⟨w.heap.size, 0, none⟩ : Addr).add 0 = ⟨w.heap.size, 0, none⟩ := rfl
  rw [ha, World.cell?_alloc_new]
  simp
  omega
theorem ret_bool {a b : Bool} (h : a = b) : Ending.returned (.bool a) = .returned (.bool b) := by rw [h]
theorem ret_int {k : IntKind} {a b : Int} (h : a = b) : Ending.returned (.int k a) = .returned (.int k b) := by rw [h]
theorem ret_str {a b : List UInt8} (h : a = b) : Ending.returned (.string (bstr a)) = .returned (.string (bstr b)) := by rw [h]
theorem take_next {α : Type} (l : List α) (k : Nat) (h : k < l.length) : l.take (k + 1) = l.take k ++ [l[k]] := List.take_succ_eq_append_getElem h
theorem take_next0 (l : List UInt8) (k : Nat) (h : k < l.length) : l.take (k + 1) = l.take k ++ [l.getD k 0] := by
  rw [take_next l k h, List.getD_eq_getElem?_getD, List.getElem?_eq_getElem h]; rfl
theorem mem_getD (l : List UInt8) (k : Nat) (h : k < l.length) : l.getD k 0 ∈ l := by
  rw [List.getD_eq_getElem?_getD, List.getElem?_eq_getElem h]; exact List.getElem_mem h
theorem slice_l {P : Program} {t : TypeId} (h : P.underlying t = some .string) (l : List UInt8) (k : Int) (j : Nat) (hj : k = (j : Int)) (hk : j ≤ l.length) (w : World) : (Instr.slice t (.string (bstr l)) (some (.int .i64 k)) none none).run P w = .ok (.string (bstr (l.drop j))) w := by
  subst hj
  rw [run_slice_string_l w t (bstr l) h .i64 (j : Int) (by omega) (by rw [bstr_size]; omega), bstr_ext, bstr_size, Int.toNat_natCast, List.take_length]
theorem slice_h {P : Program} {t : TypeId} (h : P.underlying t = some .string) (l : List UInt8) (k : Int) (j : Nat) (hj : k = (j : Int)) (hk : j ≤ l.length) (w : World) : (Instr.slice t (.string (bstr l)) none (some (.int .i64 k)) none).run P w = .ok (.string (bstr (l.take j))) w := by
  subst hj
  rw [run_slice_string_h w t (bstr l) h .i64 (j : Int) (by omega) (by rw [bstr_size]; omega), bstr_ext, Int.toNat_natCast, List.drop_zero]
theorem slice_lh {P : Program} {t : TypeId} (h : P.underlying t = some .string) (l : List UInt8) (a b : Int) (i j : Nat) (ha : a = (i : Int)) (hb : b = (j : Int)) (hij : i ≤ j) (hk : j ≤ l.length) (w : World) : (Instr.slice t (.string (bstr l)) (some (.int .i64 a)) (some (.int .i64 b)) none).run P w = .ok (.string (bstr ((l.take j).drop i))) w := by
  subst ha; subst hb
  rw [← bstr_ext]
  exact run_slice_string w t (bstr l) .i64 .i64 (i : Int) (j : Int) h (by omega) (by omega) (by rw [bstr_size]; omega)
end Go.Proofs.YtfodbfbljeeojaaGreatDoor
