/- The walk of parcel.table. -/
import Derived.Test.YtefklhjjhcobmaaSumPlain
import Derived.Test.YtefklhjjhcobmaaRows
import Derived.WalkKit
import Derived.Lib.Hide
import Derived.Handy
import Derived.Laws.CopyOwn
namespace Go.Proofs.Ytefklhjjhcobmaa
open Go.RowKit
def zeros256 : Array Value := Array.replicate 256 (.int .u32 0)
theorem zeros256_size : zeros256.size = 256 := by simp [zeros256]
def upto (k : Nat) : Array Value := ((List.range 256).map fun i => Value.int .u32 (if i < k then (CrcP.tab i : Int) else 0)).toArray
theorem upto_size (k : Nat) : (upto k).size = 256 := by simp [upto]
theorem upto_zero : upto 0 = zeros256 := by
  apply Array.ext_getElem?
  intro i
  by_cases h : i < 256 <;> simp [upto, zeros256, h]
theorem upto_get (k i : Nat) (h : i < 256) : (upto k)[i]? = some (Value.int .u32 (if i < k then (CrcP.tab i : Int) else 0)) := by
  simp [upto, h]
theorem upto_set (k : Nat) : (upto k).setIfInBounds k (.int .u32 (CrcP.tab k)) = upto (k + 1) := by
  apply Array.ext_getElem?
  intro i
  simp only [Array.getElem?_setIfInBounds]
  by_cases h : i < 256
  · by_cases e : k = i
    · subst e; simp [upto, h]
    · have e2 : (i < k + 1) = (i < k) := by simp; omega
      simp [upto, h, e, e2]
  · by_cases e : k = i
    · subst e; simp [upto, h]
    · simp [upto, h, e]
theorem zero25 (w : World) : (zeroValue 25).run Try.prog w = .ok (.agg zeros256) w := by kernel_rfl
theorem size25 : (Try.prog.info? 25).map (·.size) = some 256 := by kernel_rfl
set_option maxRecDepth 100000 in
set_option maxHeartbeats 400000 in
theorem table_any (w : World) :
    Calls Try.prog 6 #[] w fun e w' => e = .returned (.agg (upto 256)) ∧ Below w.heap.size w w' := by
  have hz := zero25
  go_enter Try.func6, Try.ntmps6
  go_wp2
  go_loopw [4] (fun i wr => ∃ k : Nat, k ≤ 256 ∧ i = .int .i64 k ∧ wr.heap[w.heap.size]? = some (.cells zeros256 25 (0, 0)) ∧ wr.heap[w.heap.size + 1]? = some (.cells (upto k) 25 (0, 0)) ∧ Below w.heap.size w wr) (fun i _ => 256 - (intOf i).toNat)
  case atStart =>
    refine ⟨0, by omega, rfl, ?_, ?_, ((Below.refl _ _).alloc (Nat.le_refl _) _).alloc (by simp) _⟩
    · exact heap_alloc2_old _ _ _
    · rw [upto_zero]; exact heap_alloc2_new _ _ _
  case round =>
    obtain ⟨k, hk, rfl, h0, h1, hb⟩ := hrel
    have H0 := Lib.hid h0; clear h0
    have H1 := Lib.hid h1; clear h1
    by_cases hlt : k < 256
    · have hd : decide ((k : Int) < 256) = true := by simp; omega
      go_wp2
      go_loop [3, 9] (fun c j => ∃ n : Nat, n ≤ 8 ∧ j = .int .i64 n ∧ c = .int .u32 (CrcP.it n k)) (fun _ j => 8 - (intOf j).toNat)
      case atStart => exact ⟨0, by omega, rfl, rfl⟩
      case round =>
        obtain ⟨n, hn, rfl, rfl⟩ := hrel
        have hl := CrcP.it_lt (show k < 4294967296 by omega) n
        by_cases hn8 : n < 8
        · go_wp2
          all_goals go_round
          case rel =>
            refine ⟨n + 1, by omega, by go_num, ?_⟩
            rw [CrcP.step_odd _ hl ‹_›]; rfl
          case measure => simp [intOf]; omega
          case rel =>
            refine ⟨n + 1, by omega, by go_num, ?_⟩
            rw [CrcP.step_even _ hl ‹_›]; rfl
          case measure => simp [intOf]; omega
        · have hc : wr.cell? ⟨w.heap.size + 1, k, none⟩ = some (.int .u32 0) := by
            rw [cell_of_row _ _ _ _ _ _ H1.out, upto_get _ _ hlt]; simp
          have hf : wr.frozen? ⟨w.heap.size + 1, k, none⟩ = false := frozen_of_row _ _ _ _ _ H1.out
          go_wp2
          go_roundw
          case rel =>
            refine ⟨k + 1, by omega, by go_num, ?_, ?_, hb.setCell (by simp) _⟩
            · rw [heap_setCell_other _ _ _ _ (by simp)]; exact H0.out
            · have e8 : n = 8 := by omega
              rw [heap_setCell_same _ _ _ _ _ _ H1.out, e8]
              show some (Obj.cells ((upto k).setIfInBounds k (.int .u32 (CrcP.tab k))) 25 (0, 0)) = _
              rw [upto_set]
          case measure => simp [intOf]; omega
    · have hd : decide ((k : Int) < 256) = false := by simp; omega
      have hsz : (Try.prog.info? 25).map (·.size) = some (upto k).size := by rw [upto_size]; exact size25
      have HS := Lib.hid hsz; clear hsz
      have hag : (upto k).all (·.oneCell') = true := by simp [upto, Value.oneCell']
      go_wp2_with (first | (refine wpList_load_row rfl 25 _ rfl (w.heap.size + 1) rfl 25 _ (0, 0) _ H1.out Try.underlying25 rfl HS.out ?_) | (refine wpList_store_row rfl 25 _ _ rfl w.heap.size _ rfl rfl 25 _ H0.out HS.out (by rw [upto_size, zeros256_size]) hag ?_))
      have e8 : k = 256 := by omega
      refine bodyPost_ret (results_cell_row rfl _ _ w.heap.size 25 (upto k) (0, 0) _ rfl (setRow_heap _ _ _ _ _ _ H0.out) Try.underlying25 rfl HS.out) rfl ⟨by rw [e8], ?_⟩
      exact below_setRow hb (Nat.le_refl _) _
end Go.Proofs.Ytefklhjjhcobmaa
