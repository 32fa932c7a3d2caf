/- The walk of parcel.Sum. -/
import Derived.Test.YtefklhjjhcobmaaSumW1
import Derived.Test.YtefklhjjhcobmaaSumW3
namespace Go.Proofs.Ytefklhjjhcobmaa
open Go.RowKit
theorem upto_all (k : Nat) : (upto k).all (·.oneCell') = true := by simp [upto, Value.oneCell']
set_option maxRecDepth 100000 in
set_option maxHeartbeats 400000 in
theorem sum_any (s : ByteArray) (w : World) (hs : s.size ≤ maxLen) :
    Calls Try.prog 4 #[.string s] w fun e w' => e = .returned (.int .i64 ((4294967295 - CrcP.sum s.data.toList : Nat) : Int)) ∧ Below w.heap.size w w' := by
  unfold maxLen at hs
  have hz := zero25
  have hsz : (Try.prog.info? 25).map (·.size) = some (upto 256).size := by rw [upto_size]; exact size25
  have HS := Lib.hid hsz; clear hsz
  go_enter Try.func4, Try.ntmps4
  go_wp2_with fail
  refine (table_any _).mono ?_
  rintro e w1 ⟨rfl, hb1⟩
  go_wp2_with (refine wpList_store_row rfl 25 _ _ rfl w1.heap.size _ rfl rfl 25 _ (heap_alloc_new _ _) HS.out (by rw [upto_size, zeros256_size]) (upto_all _) ?_)
  have hrow : ((w1.alloc (Obj.cells zeros256 25)).setRow w1.heap.size (upto 256)).heap[w1.heap.size]? = some (.cells (upto 256) 25 (0, 0)) := setRow_heap _ _ _ _ _ _ (heap_alloc_new _ _)
  have hbel : Below w.heap.size w ((w1.alloc (Obj.cells zeros256 25)).setRow w1.heap.size (upto 256)) := below_setRow (hb1.alloc hb1.size _) hb1.size _
  generalize (w1.alloc (Obj.cells zeros256 25)).setRow w1.heap.size (upto 256) = W at hrow hbel ⊢
  have HR := Lib.hid hrow; clear hrow
  have HB := Lib.hid hbel; clear hbel
  go_loop [4, 9] (fun c i => ∃ k : Nat, k ≤ s.size ∧ i = .int .i64 k ∧ c = .int .u32 (CrcP.sum (s.data.toList.take k))) (fun _ i => s.size - (intOf i).toNat)
  case atStart => exact ⟨0, Nat.zero_le _, rfl, rfl⟩
  case round =>
    obtain ⟨k, hk, rfl, rfl⟩ := hrel
    have hl := CrcP.sum_lt (s.data.toList.take k)
    by_cases hlt : k < s.size
    · have hn := sum_snoc s k hlt
      generalize CrcP.sum (s.data.toList.take k) = c at *
      have hlt' := CrcP.idx_lt c s[k]
      have hx := CrcP.idx_eq c s[k]
      have hu := CrcP.upd_eq c hl s[k]
      have hc : W.cell? ⟨w1.heap.size, (c % 256) ^^^ s[k].toNat, none⟩ = some (.int .u32 (CrcP.tab ((c % 256) ^^^ s[k].toNat))) := by
        rw [cell_of_row _ _ _ _ _ _ HR.out, upto_get _ _ hlt', if_pos hlt']
      have HN := Lib.hid hn; clear hn
      generalize (c % 256) ^^^ s[k].toNat = ix at *
      generalize CrcP.upd c s[k].toNat = d at *
      go_wp2
      go_round
      case rel => exact ⟨k + 1, by omega, by go_num, by rw [HN.out]⟩
      case measure => simp [intOf]; omega
    · go_wp2
      go_ret
      have e1 : s.data.toList.take k = s.data.toList := List.take_of_length_le (by simp; omega)
      rw [e1] at hl
      refine ⟨?_, HB.out⟩
      show Ending.returned (Value.int IntKind.i64 (wrap64 (bits BinOp.xor IntKind.u32 IntKind.u32.max ↑(CrcP.sum (List.take k s.data.toList))))) = _
      rw [e1, CrcP.not_eq _ hl, Go.IntWalk.wrap64_in _ (by omega)]
end Go.Proofs.Ytefklhjjhcobmaa
