/- Strings as lists of bytes: words for the contracts. -/
import Derived.Test.YtgphgimbnflhfaaDoorMem
import Derived.Test.YtgphgimbnflhfaaDoorRows
import Derived.WalkLawsBesides
import Derived.Deep.CutBlock
import Derived.Deep.DeepCutAuto
import Derived.OwnWalk
import Derived.Shelf.Abstract
set_option linter.unusedSimpArgs false
set_option linter.unusedVariables false
namespace Go.Proofs.YtgphgimbnflhfaaDoor
open Go.RowKit
def bstr (l : List UInt8) : ByteArray := ⟨l.toArray⟩
theorem bstr_of (s : ByteArray) : ∃ l, s = bstr l := ⟨s.data.toList, rfl⟩
theorem bstr_list (l : List UInt8) : (bstr l).toList = l := by unfold bstr; rw [ByteArray.toList_mk]
theorem bstr_emp (l : List UInt8) : (bstr l).toList.isEmpty = l.isEmpty := by rw [bstr_list]
theorem bstr_size (l : List UInt8) : (bstr l).size = l.length := rfl
theorem bstr_app (a b : List UInt8) : bstr a ++ bstr b = bstr (a ++ b) := by
  apply ByteArray.ext
  simp [bstr]
theorem bstr_add (l : List UInt8) (c : UInt8) : bstr l ++ { data := #[c] } = bstr (l ++ [c]) := bstr_app l [c]
theorem bstr_at (T : List UInt8) (p : Nat) (hp : p < (bstr T).size) : (bstr T)[p] = T.getD p 0 := by
  rw [List.getD_eq_getElem?_getD, List.getElem?_eq_getElem (by simpa [bstr_size] using hp)]
  rfl
theorem bstr_ext (T : List UInt8) (i j : Nat) : (bstr T).extract i j = bstr ((T.take j).drop i) := by
  apply ByteArray.ext
  apply Array.toList_inj.1
  rw [ByteArray.data_extract]
  unfold bstr
  rw [Array.toList_extract, List.extract_eq_take_drop, List.drop_take]
theorem bstr_inj {a b : List UInt8} (h : bstr a = bstr b) : a = b := by
  rw [← bstr_list a, ← bstr_list b, h]
theorem conv1 {P : Program} {src dst e : TypeId} (hs : P.underlying src = some (.slice e)) (he : P.underlying e = some (.int .u8)) (hd : P.underlying dst = some .string) (w : World) (c : Nat) (hc : c < 256) :
    (convert src dst (.slice (some ⟨w.heap.size, 0, none⟩) 1 1)).run P (w.alloc (.cells #[.int .u8 (c : Int)] e)) = .ok (.string (bstr [UInt8.ofNat c])) (w.alloc (.cells #[.int .u8 (c : Int)] e)) := by
  refine run_convert_bytes_back _ src dst e ⟨w.heap.size, 0, none⟩ 1 [UInt8.ofNat c] hs he hd (fun j hj => ?_)
  have hj0 : j = 0 := by simpa using hj
  subst hj0
  have ha : (⟨w.heap.size, 0, none⟩ : Addr).add 0 = ⟨w.heap.size, 0, none⟩ := rfl
  rw [ha, World.cell?_alloc_new]
  simp
  omega
theorem ret_bool {a b : Bool} (h : a = b) : Ending.returned (.bool a) = .returned (.bool b) := by rw [h]
theorem ret_int {k : IntKind} {a b : Int} (h : a = b) : Ending.returned (.int k a) = .returned (.int k b) := by rw [h]
theorem ret_str {a b : List UInt8} (h : a = b) : Ending.returned (.string (bstr a)) = .returned (.string (bstr b)) := by rw [h]
theorem take_next {α : Type} (l : List α) (k : Nat) (h : k < l.length) : l.take (k + 1) = l.take k ++ [l[k]] := List.take_succ_eq_append_getElem h
theorem take_next0 (l : List UInt8) (k : Nat) (h : k < l.length) : l.take (k + 1) = l.take k ++ [l.getD k 0] := by
  rw [take_next l k h, List.getD_eq_getElem?_getD, List.getElem?_eq_getElem h]; rfl
theorem mem_getD (l : List UInt8) (k : Nat) (h : k < l.length) : l.getD k 0 ∈ l := by
  rw [List.getD_eq_getElem?_getD, List.getElem?_eq_getElem h]; exact List.getElem_mem h
theorem slice_l {P : Program} {t : TypeId} (h : P.underlying t = some .string) (l : List UInt8) (k : Int) (j : Nat) (hj : k = (j : Int)) (hk : j ≤ l.length) (w : World) : (Instr.slice t (.string (bstr l)) (some (.int .i64 k)) none none).run P w = .ok (.string (bstr (l.drop j))) w := by
  subst hj
  rw [run_slice_string_l w t (bstr l) h .i64 (j : Int) (by omega) (by rw [bstr_size]; omega), bstr_ext, bstr_size, Int.toNat_natCast, List.take_length]
theorem slice_h {P : Program} {t : TypeId} (h : P.underlying t = some .string) (l : List UInt8) (k : Int) (j : Nat) (hj : k = (j : Int)) (hk : j ≤ l.length) (w : World) : (Instr.slice t (.string (bstr l)) none (some (.int .i64 k)) none).run P w = .ok (.string (bstr (l.take j))) w := by
  subst hj
  rw [run_slice_string_h w t (bstr l) h .i64 (j : Int) (by omega) (by rw [bstr_size]; omega), bstr_ext, Int.toNat_natCast, List.drop_zero]
theorem slice_lh {P : Program} {t : TypeId} (h : P.underlying t = some .string) (l : List UInt8) (a b : Int) (i j : Nat) (ha : a = (i : Int)) (hb : b = (j : Int)) (hij : i ≤ j) (hk : j ≤ l.length) (w : World) : (Instr.slice t (.string (bstr l)) (some (.int .i64 a)) (some (.int .i64 b)) none).run P w = .ok (.string (bstr ((l.take j).drop i))) w := by
  subst ha; subst hb
  rw [← bstr_ext]
  exact run_slice_string w t (bstr l) .i64 .i64 (i : Int) (j : Int) h (by omega) (by omega) (by rw [bstr_size]; omega)
end Go.Proofs.YtgphgimbnflhfaaDoor
