/- Blocks of cells and what keeps them: words for the contracts' worlds. -/
import Derived.WalkKit
import Derived.Lib.Hide
import Derived.Handy
import Derived.WalkSmall
import Derived.BigQuiet
import Derived.Deep.QuietTactic
import Derived.Laws.CopyOwn
set_option linter.unusedSimpArgs false
set_option linter.unusedVariables false
namespace Go.Proofs.YtgphgimbnflhfaaDoor
open Go.RowKit
/-- a fact kept from the walk: a structure, so that nothing unfolds it -/
structure Bx (p : Prop) : Prop where
  out : p
/-- block b holds the cells cs, written freely -/
def Row (w : World) (b : Nat) (t : TypeId) (cs : Array Value) : Prop := w.heap[b]? = some (.cells cs t (0, 0))
theorem Row.cell {w : World} {b : Nat} {t : TypeId} {cs : Array Value} (h : Row w b t cs) (j : Nat) : w.cell? ⟨b, j, none⟩ = cs[j]? := cell_of_row _ _ _ _ _ _ h
theorem Row.frozen {w : World} {b : Nat} {t : TypeId} {cs : Array Value} (h : Row w b t cs) (j : Nat) : w.frozen? ⟨b, j, none⟩ = false := frozen_of_row _ _ _ _ _ h
theorem Row.lt {w : World} {b : Nat} {t : TypeId} {cs : Array Value} (h : Row w b t cs) : b < w.heap.size := by
  unfold Row at h
  rcases Nat.lt_or_ge b w.heap.size with h' | h'
  · exact h'
  · rw [Array.getElem?_eq_none h'] at h; cases h
theorem Row.set {w : World} {b : Nat} {t : TypeId} {cs : Array Value} (h : Row w b t cs) (j : Nat) (v : Value) : Row (w.setCell ⟨b, j, none⟩ v) b t (cs.setIfInBounds j v) := heap_setCell_same _ _ _ _ _ _ h
theorem Row.other {w : World} {b : Nat} {t : TypeId} {cs : Array Value} (h : Row w b t cs) {a : Addr} (ha : a.block ≠ b) (v : Value) : Row (w.setCell a v) b t cs := by
  unfold Row
  rw [heap_setCell_other _ _ _ _ (fun e => ha e.symm)]; exact h
theorem Row.drew {w : World} {b : Nat} {t : TypeId} {cs : Array Value} (h : Row w b t cs) : Row w.drew b t cs := h
theorem Row.drewN {w : World} {b : Nat} {t : TypeId} {cs : Array Value} (h : Row w b t cs) (n : Nat) : Row (w.drewN n) b t cs := h
theorem Row.alloc {w : World} {b : Nat} {t : TypeId} {cs : Array Value} (h : Row w b t cs) (o : Obj) : Row (w.alloc o) b t cs := by
  unfold Row
  rw [Below.heap_alloc _ _ _ h.lt]; exact h
theorem Row.new (w : World) (t : TypeId) (cs : Array Value) : Row (w.alloc (.cells cs t)) w.heap.size t cs := heap_alloc_new _ _
theorem Row.below {w w' : World} {B b : Nat} {t : TypeId} {cs : Array Value} (h : Row w b t cs) (hb : Below B w w') (hB : b < B) : Row w' b t cs := by
  unfold Row
  rw [hb.block b hB]; exact h
theorem Row.same {w : World} {b : Nat} {t : TypeId} {cs cs' : Array Value} (h : Row w b t cs) (e : cs = cs') : Row w b t cs' := e ▸ h

/-- w' is w with new blocks; of the old ones only those in S may have turned -/
structure Keep (S : Nat → Prop) (w w' : World) : Prop where
  os : w'.os = w.os
  tape : w'.tape = w.tape
  output : w'.output = w.output
  size : w.heap.size ≤ w'.heap.size
  block : ∀ k, k < w.heap.size → ¬ S k → w'.heap[k]? = w.heap[k]?
theorem Keep.refl (S : Nat → Prop) (w : World) : Keep S w w := ⟨rfl, rfl, rfl, Nat.le_refl _, fun _ _ _ => rfl⟩
theorem Keep.trans {S : Nat → Prop} {a b c : World} (h : Keep S a b) (k : Keep S b c) : Keep S a c :=
  ⟨k.os.trans h.os, k.tape.trans h.tape, k.output.trans h.output, Nat.le_trans h.size k.size, fun i hi hs => (k.block i (Nat.lt_of_lt_of_le hi h.size) hs).trans (h.block i hi hs)⟩
theorem Keep.mono {S T : Nat → Prop} {w w' : World} (h : Keep S w w') (hs : ∀ k, k < w.heap.size → S k → T k) : Keep T w w' :=
  ⟨h.os, h.tape, h.output, h.size, fun k hk ht => h.block k hk (fun s => ht (hs k hk s))⟩
theorem Keep.drew {S : Nat → Prop} {a w : World} (h : Keep S a w) : Keep S a w.drew := ⟨h.os, h.tape, h.output, h.size, h.block⟩
theorem Keep.drewN {S : Nat → Prop} {a w : World} (h : Keep S a w) (n : Nat) : Keep S a (w.drewN n) := ⟨h.os, h.tape, h.output, h.size, h.block⟩
theorem Keep.alloc {S : Nat → Prop} {a w : World} (h : Keep S a w) (o : Obj) : Keep S a (w.alloc o) :=
  ⟨h.os, h.tape, h.output, by have := h.size; simp; omega, fun k hk hs => (Below.heap_alloc w o k (Nat.lt_of_lt_of_le hk h.size)).trans (h.block k hk hs)⟩
theorem Keep.setCell {S : Nat → Prop} {a w : World} (h : Keep S a w) {p : Addr} (hp : p.block < a.heap.size → S p.block) (u : Value) : Keep S a (w.setCell p u) :=
  ⟨h.os, h.tape, h.output, by have := h.size; simp [World.setCell]; omega, fun k hk hs => by
    rw [Below.heap_setCell _ _ _ _ (fun e => hs (by subst e; exact hp hk))]; exact h.block k hk hs⟩
theorem Keep.below {S : Nat → Prop} {w w' : World} (h : Keep S w w') {B : Nat} (hB : B ≤ w.heap.size) (hS : ∀ k, k < B → ¬ S k) : Below B w w' :=
  ⟨h.os, h.tape, h.output, h.size, fun k hk => h.block k (Nat.lt_of_lt_of_le hk hB) (hS k hk)⟩
theorem Keep.row {S : Nat → Prop} {w w' : World} (h : Keep S w w') {b : Nat} {t : TypeId} {cs : Array Value} (hr : Row w b t cs) (hS : ¬ S b) : Row w' b t cs := by
  unfold Row
  rw [h.block b hr.lt hS]; exact hr
theorem Keep.ofBelow {w w' : World} {B : Nat} (h : Below B w w') {S : Nat → Prop} (hS : ∀ k, k < w.heap.size → ¬ S k → k < B) : Keep S w w' :=
  ⟨h.os, h.tape, h.output, h.size, fun k hk hs => h.block k (hS k hk hs)⟩
theorem cell1 (w : World) (x : Value) (t : TypeId) : ∀ j u, [x][j]? = some u → (w.alloc (.cells #[x] t)).cell? ((⟨w.heap.size, 0, none⟩ : Addr).add j) = some u := by
  intro j u h
  match j with
  | 0 =>
    have e : u = x := by simpa using h.symm
    subst e
    simp [Addr.add]
  | j + 1 => simp at h
theorem grown_cell {w w1 : World} {o : Obj} {r : Option Nat} (hg : (w.alloc o).grownBy w1 r) {b : Nat} (hb : b < w.heap.size) (hr : r ≠ some b) (i : Nat) : w1.cell? ⟨b, i, none⟩ = w.cell? ⟨b, i, none⟩ :=
  World.cell?_of_block (w := w) ((hg.block b (by simp; omega) (fun e => hr e.symm)).trans (Below.heap_alloc _ _ _ hb))
theorem grown_frozen {w w1 : World} {o : Obj} {r : Option Nat} (hg : (w.alloc o).grownBy w1 r) {b : Nat} (hb : b < w.heap.size) (hr : r ≠ some b) (i : Nat) : w1.frozen? ⟨b, i, none⟩ = w.frozen? ⟨b, i, none⟩ :=
  World.frozen?_of_block (w := w) ((hg.block b (by simp; omega) (fun e => hr e.symm)).trans (Below.heap_alloc _ _ _ hb))
/-- an owned row of one-cell elements, read: its block, and each cell -/
theorem owns_read {w : World} {base : Nat} {e : TypeId} {n : Nat} {v : Value} {xs : List Value} (h : w.ownsRow base e 1 v n xs) (hn : 0 < n) :
    ∃ g cap, v = .slice (some ⟨g, 0, none⟩) n cap ∧ base ≤ g ∧ n ≤ cap ∧ (∀ j, j < n → w.cell? ⟨g, j, none⟩ = xs[j]?) ∧ (∀ j, w.frozen? ⟨g, j, none⟩ = false) := by
  rcases h.2 with ⟨_, h2⟩ | ⟨g, cap, cur, h1, hb, hg, hc, _, hs, ht⟩
  · omega
  · refine ⟨g, cap, h1, hb, hc, fun j hj => ?_, fun j => frozen_of_row _ _ _ _ _ hg⟩
    rw [cell_of_row _ _ _ _ _ _ hg, ← ht, List.getElem?_take, if_pos (by omega), Array.getElem?_toList]
def lenOf : Value → Nat | .slice _ n _ => n | _ => 0
def bvals (l : List UInt8) : List Value := l.map fun b => Value.int .u8 (b.toNat : Int)
theorem bvals_append (a b : List UInt8) : bvals (a ++ b) = bvals a ++ bvals b := by simp [bvals]
theorem bvals_one (b : UInt8) : bvals [b] = [.int .u8 (b.toNat : Int)] := rfl
theorem owns_keep {S : Nat → Prop} {w w' : World} {base : Nat} {e : TypeId} {size n : Nat} {v : Value} {xs : List Value} (h : w.ownsRow base e size v n xs) (k : Keep S w w') (hS : ∀ j, v.ownBlock = some j → ¬ S j) : w'.ownsRow base e size v n xs := by
  obtain ⟨h4, h5⟩ := h
  refine ⟨h4, ?_⟩
  rcases h5 with h5 | ⟨g, cap, cur, hv, hb, hg, r⟩
  · exact .inl h5
  · refine .inr ⟨g, cap, cur, hv, hb, ?_, r⟩
    exact k.row (b := g) (t := e) (cs := cur) hg (hS g (by rw [hv]; rfl))
theorem owns_below {w : World} {base : Nat} {e : TypeId} {size n : Nat} {v : Value} {xs : List Value} (h : w.ownsRow base e size v n xs) : ∀ k, v.ownBlock = some k → base ≤ k := by
  intro k hk
  rcases h.2 with ⟨h1, _⟩ | ⟨g, cap, cur, h1, hb, _⟩
  · subst h1; cases hk
  · subst h1; cases hk; exact hb
theorem keep_grown {S : Nat → Prop} {a w w' : World} {r : Option Nat} (h : Keep S a w) (o : Obj) (hg : (w.alloc o).grownBy w' r) (hr : ∀ k, r = some k → a.heap.size ≤ k) : Keep S a w' :=
  ⟨hg.os.trans h.os, hg.tape.trans h.tape, hg.output.trans h.output, by have := hg.size; have := h.size; simp at *; omega, fun k hk hs => by
    have hk2 := Nat.lt_of_lt_of_le hk h.size
    rw [hg.block k (by simp; omega) (fun e => by have := hr k e.symm; omega), Below.heap_alloc _ _ _ hk2]
    exact h.block k hk hs⟩
/-- an owned row of bytes, turned into a string -/
theorem owned_string {P : Program} {w : World} {base : Nat} {src dst e : TypeId} {v : Value} {l : List UInt8} (hs : P.underlying src = some (.slice e)) (he : P.underlying e = some (.int .u8)) (hd : P.underlying dst = some .string)
    (h : w.ownsRow base e 1 v l.length (bvals l)) : (convert src dst v).run P w = .ok (.string ⟨l.toArray⟩) w := by
  rcases Nat.eq_zero_or_pos l.length with h0 | h0
  · have hl : l = [] := List.length_eq_zero_iff.1 h0
    subst hl
    rcases h.2 with ⟨h1, _⟩ | ⟨g, cap, cur, h1, _⟩
    · subst h1; exact run_convert_bytes_nil w src e hs he 0 0 dst hd
    · subst h1; exact run_convert_bytes_back w src dst e ⟨g, 0, none⟩ cap [] hs he hd (fun j hj => by simp at hj)
  · obtain ⟨g, cap, hv, _, _, hc, _⟩ := owns_read h h0
    subst hv
    refine run_convert_bytes_back w src dst e ⟨g, 0, none⟩ cap l hs he hd (fun j hj => ?_)
    have ha : (⟨g, 0, none⟩ : Addr).add j = ⟨g, j, none⟩ := by unfold Addr.add; split <;> simp_all
    rw [ha, hc j hj]
    simp [bvals, hj]
theorem Row.grown {w w1 : World} {o : Obj} {r : Option Nat} {b : Nat} {t : TypeId} {cs : Array Value} (h : Row w b t cs) (hg : (w.alloc o).grownBy w1 r) (hr : r ≠ some b) : Row w1 b t cs := by
  unfold Row
  rw [hg.block b (by have := h.lt; simp; omega) (fun e => hr e.symm)]
  exact h.alloc o
theorem owns_nil (w : World) (base : Nat) (e : TypeId) (size : Nat) : w.ownsRow base e size (.slice none 0 0) 0 [] := ⟨by simp, .inl ⟨rfl, rfl⟩⟩
theorem owns_slice {w : World} {base : Nat} {e : TypeId} {size n : Nat} {v : Value} {xs : List Value} (h : w.ownsRow base e size v n xs) : ∃ a c, v = .slice a n c := by
  rcases h.2 with ⟨h1, h2⟩ | ⟨g, cap, cur, h1, _⟩
  · subst h2; exact ⟨_, _, h1⟩
  · exact ⟨_, _, h1⟩
end Go.Proofs.YtgphgimbnflhfaaDoor
