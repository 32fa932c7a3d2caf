/- Rows of bytes out of a string. -/
import Derived.Test.YtefklhjjhcobmaaDoorSqR2
import Derived.Test.YtefklhjjhcobmaaDoorSqPlain3
namespace Go.Proofs.YtefklhjjhcobmaaDoor
open Go.RowKit
def bstr (l : List UInt8) : ByteArray := ⟨l.toArray⟩
theorem bstr_emp (l : List UInt8) : (bstr l).toList.isEmpty = l.isEmpty := by unfold bstr; rw [ByteArray.toList_mk]
theorem bstr_size (l : List UInt8) : (bstr l).size = l.length := rfl
theorem bstr_add (l : List UInt8) (c : UInt8) : bstr l ++ { data := #[c] } = bstr (l ++ [c]) := by
  apply ByteArray.ext
  simp [bstr]
/-- a row of bytes, the zeros behind it, a mark beyond its end -/
def BRow (w : World) (b : Nat) (l : List UInt8) (z : Nat) : Prop := ∃ hi, w.heap[b]? = some (.cells (bvals l ++ List.replicate z (Value.int .u8 0)).toArray 5 (l.length + z, hi))
theorem BRow.cell {w : World} {b : Nat} {l : List UInt8} {z : Nat} (h : BRow w b l z) (j : Nat) (hj : j < l.length) : w.cell? ⟨b, j, none⟩ = some (.int .u8 ((l.getD j 0).toNat : Int)) := by
  obtain ⟨hi, h⟩ := h
  rw [cell_of_row _ _ _ _ _ _ h]
  have h2 : j < (bvals l).length := by simpa [bvals] using hj
  rw [List.getElem?_toArray, List.getElem?_append_left h2, List.getD_eq_getElem?_getD, List.getElem?_eq_getElem hj]
  simp [bvals, hj]
theorem BRow.frozen {w : World} {b : Nat} {l : List UInt8} {z : Nat} (h : BRow w b l z) (j : Nat) (hj : j < l.length) : w.frozen? ⟨b, j, none⟩ = false := by
  obtain ⟨hi, h⟩ := h
  have e : ¬ (l.length + z ≤ j) := by omega
  simp [World.frozen?, h, e]
theorem BRow.set {w : World} {b : Nat} {x y : List UInt8} {c : UInt8} {z : Nat} (h : BRow w b (x ++ c :: y) z) (d : UInt8) : BRow (w.setCell ⟨b, x.length, none⟩ (.int .u8 (d.toNat : Int))) b (x ++ d :: y) z := by
  obtain ⟨hi, h⟩ := h
  refine ⟨hi, ?_⟩
  rw [setCell_eq_setRow w b _ _ _ _ _ h, setRow_heap _ _ _ _ _ _ h]
  congr 2
  · rw [List.setIfInBounds_toArray]
    congr 1
    simp [bvals]
  · simp
theorem BRow.new (w : World) (s : ByteArray) (cap : Nat) : BRow (w.alloc (.cells (bytesRow s cap) 5 ((bytesRow s cap).size, (bytesRow s cap).size + 1))) w.heap.size s.data.toList (cap - s.size) := by
  refine ⟨(bytesRow s cap).size + 1, ?_⟩
  show (w.heap.push _)[w.heap.size]? = _
  rw [Array.getElem?_push, if_pos rfl]
  have e : bytesRow s cap = (bvals s.data.toList ++ List.replicate (cap - s.size) (Value.int .u8 0)).toArray := by
    unfold bytesRow bvals
    apply Array.ext'
    simp
  rw [e]
  congr 2
  simp [bvals]
theorem BRow.string {P : Program} {w : World} {b : Nat} {l : List UInt8} {z : Nat} {src dst : TypeId} (h : BRow w b l z) (hs : P.underlying src = some (.slice 5)) (he : P.underlying 5 = some (.int .u8)) (hd : P.underlying dst = some .string) (cap : Nat) :
    (convert src dst (.slice (some ⟨b, 0, none⟩) l.length cap)).run P w = .ok (.string (bstr l)) w := by
  refine run_convert_bytes_back w src dst 5 ⟨b, 0, none⟩ cap l hs he hd (fun j hj => ?_)
  have ha : (⟨b, 0, none⟩ : Addr).add j = ⟨b, j, none⟩ := by unfold Addr.add; split <;> simp_all
  rw [ha, h.cell j hj, List.getD_eq_getElem?_getD, List.getElem?_eq_getElem hj]
  rfl
theorem BRow.cast {w : World} {b : Nat} {l l' : List UInt8} {z : Nat} (h : BRow w b l z) (e : l = l') : BRow w b l' z := e ▸ h
def lenS : Value → Nat | .string s => s.size | _ => 0
/-- what the carry loop holds: its digit in the middle -/
theorem carry_split (len j u : Nat) (hj : j < len) : SqP.binS (len - j) (u / 2 ^ j) ++ List.replicate j 48 = SqP.binS (len - 1 - j) (u / 2 ^ (j + 1)) ++ SqP.dig (u / 2 ^ j) :: List.replicate j 48 := by
  rw [show len - j = (len - 1 - j) + 1 from by omega]
  simp only [SqP.binS]
  rw [Nat.div_div_eq_div_mul, ← Nat.pow_succ, List.append_assoc]; rfl
theorem carry_next (len j u : Nat) (_hj : j < len) : SqP.binS (len - 1 - j) (u / 2 ^ (j + 1)) ++ (48 : UInt8) :: List.replicate j 48 = SqP.binS (len - (j + 1)) (u / 2 ^ (j + 1)) ++ List.replicate (j + 1) 48 := by
  rw [show len - (j + 1) = len - 1 - j from by omega, List.replicate_succ]
theorem carry_last (len j u : Nat) (hj : j < len) (hd : u % 2 ^ j = 2 ^ j - 1) (h0 : u / 2 ^ j % 2 = 0) : SqP.binS (len - 1 - j) (u / 2 ^ (j + 1)) ++ (49 : UInt8) :: List.replicate j 48 = SqP.binS len (u + 1) := by
  rw [SqP.binS_succ len j u hj hd h0, show len - j - 1 = len - 1 - j from by omega]
theorem carry_mod (j u : Nat) (hd : u % 2 ^ j = 2 ^ j - 1) (h1 : u / 2 ^ j % 2 = 1) : u % 2 ^ (j + 1) = 2 ^ (j + 1) - 1 := by
  have hpos := Nat.two_pow_pos j
  have e : u % 2 ^ (j + 1) = u % 2 ^ j + 2 ^ j * (u / 2 ^ j % 2) := by rw [Nat.pow_succ]; exact Nat.mod_mul
  rw [e, hd, h1, Nat.pow_succ]; omega
theorem carry_room (len j u : Nat) (hj : j < len) (hd : u % 2 ^ (j + 1) = 2 ^ (j + 1) - 1) (hu : u + 1 + 1 ≤ 2 ^ len) : j + 1 < len := by
  rcases Nat.lt_or_ge (j + 1) len with h | h
  · exact h
  · have e : j + 1 = len := by omega
    rw [e, Nat.mod_eq_of_lt (by omega)] at hd
    have := Nat.two_pow_pos len
    omega
/-- string([]byte{c}): the new row of one byte, read back -/
theorem conv1 {P : Program} {src dst : TypeId} (hs : P.underlying src = some (.slice 5)) (he : P.underlying 5 = some (.int .u8)) (hd : P.underlying dst = some .string) (w : World) (c : Nat) (hc : c < 256) :
    (convert src dst (.slice (some ⟨w.heap.size, 0, none⟩) 1 1)).run P (w.alloc (.cells #[.int .u8 (c : Int)] 5)) = .ok (.string (bstr [UInt8.ofNat c])) (w.alloc (.cells #[.int .u8 (c : Int)] 5)) := by
  refine run_convert_bytes_back _ src dst 5 ⟨w.heap.size, 0, none⟩ 1 [UInt8.ofNat c] hs he hd (fun j hj => ?_)
  have hj0 : j = 0 := by simpa using hj
  subst hj0
  have ha : (⟨w.heap.size, 0, none⟩ : Addr).add 0 = ⟨w.heap.size, 0, none⟩ := rfl
  rw [ha, World.cell?_alloc_new]
  simp
  omega
end Go.Proofs.YtefklhjjhcobmaaDoor
