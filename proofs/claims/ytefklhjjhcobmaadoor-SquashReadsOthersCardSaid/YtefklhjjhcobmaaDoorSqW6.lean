/- The walk of codes. -/
import Derived.Test.YtefklhjjhcobmaaDoorSqW5
namespace Go.Proofs.YtefklhjjhcobmaaDoor
open Go.RowKit
def zeros272 : Array Value := ints (List.replicate 272 0)
theorem make272 (w : World) : (Instr.makeSlice 30 (.int .i64 272) (.int .i64 272)).run Tryd.prog w = .ok (.slice (some ⟨w.heap.size, 0, none⟩) 272 272) (w.alloc (.cells zeros272 3)) := by kernel_rfl
theorem zeros272_size : zeros272.size = 272 := by unfold zeros272 ints; rw [List.size_toArray, List.length_map, List.length_replicate]
theorem shl_one (k : Nat) (h : k ≤ 14) : wrap64 (2 ^ k) = ((2 ^ k : Nat) : Int) := by
  have h2 : 2 ^ k ≤ 2 ^ 14 := Nat.pow_le_pow_right (by omega) h
  unfold wrap64
  have e : ((2 : Int) ^ k) = ((2 ^ k : Nat) : Int) := by simp
  have h0 : 0 < 2 ^ k := Nat.two_pow_pos k
  rw [e]
  generalize 2 ^ k = x at *
  omega
set_option maxRecDepth 100000 in
set_option maxHeartbeats 1000000 in
theorem codes_any (L : List Nat) (lb : Nat) (w : World) (hL : L.length = 272) (hr : Row w lb 3 (ints L)) :
    Calls Tryd.prog 18 #[.slice (some ⟨lb, 0, none⟩) 272 272] w fun e w' => e = .returned (.tuple #[.slice (some ⟨w.heap.size, 0, none⟩) 272 272, .bool (decide (SqP.kr L 15 ≤ 32768))]) ∧ Below w.heap.size w w' := by
  have HR := Bx.mk hr; clear hr
  have hmk := make272
  go_enter Tryd.func18, Tryd.ntmps18
  go_wp2
  go_loopw [5, 6, 7] (fun c s n wr => ∃ k : Nat, 1 ≤ k ∧ k ≤ 16 ∧ n = .int .i64 k ∧ c = .int .i64 (SqP.ca L (k - 1) : Int) ∧ s = .int .i64 (SqP.kr L (k - 1) : Int) ∧ (∃ cs, Row wr w.heap.size 3 cs ∧ cs.size = 272) ∧ Below w.heap.size w wr) (fun _ _ n _ => 16 - (intOf n).toNat)
  case atStart => exact ⟨1, by omega, by omega, rfl, rfl, rfl, ⟨_, Row.new _ _ _, zeros272_size⟩, (Below.refl _ _).alloc (Nat.le_refl _) _⟩
  case round =>
    obtain ⟨n, hn1, hn16, rfl, rfl, rfl, hcs, hbel⟩ := hrel
    by_cases hlt : n ≤ 15
    · have hd15 : decide ((n : Int) ≤ 15) = true := by simp; omega
      obtain ⟨c2, ec2⟩ : ∃ c2 : Nat, (SqP.ca L (n - 1) : Int) * 2 = (c2 : Int) := ⟨2 * SqP.ca L (n - 1), by omega⟩
      have hca := SqP.ca_bd L hL (n - 1) (by omega)
      have hkr := SqP.kr_bd L hL (n - 1)
      have hkr2 : SqP.kr L (n - 1) ≤ 124780544 := by omega
      have hc2 : c2 = 2 * SqP.ca L (n - 1) := by omega
      have hc2l : c2 ≤ 17825792 := by omega
      have HC2 := Bx.mk hc2; clear hc2 hkr
      obtain ⟨m, hm⟩ : ∃ m : Nat, IntKind.i64.wrap (15 - (n : Int)) = (m : Int) := ⟨15 - n, by rw [IntKind.wrap_i64]; omega⟩
      have hmn : m = 15 - n := by rw [IntKind.wrap_i64] at hm; omega
      have hm14 : m ≤ 14 := by omega
      have HMN := Bx.mk hmn; clear hmn
      have hsh := shl_one m hm14
      have h2m : 2 ^ m ≤ 16384 := Nat.pow_le_pow_right (n := 2) (by omega) hm14
      obtain ⟨p, hp⟩ : ∃ p, 2 ^ m = p := ⟨_, rfl⟩
      rw [hp] at hsh h2m
      have HP2 := Bx.mk hp; clear hp
      go_wp2
      go_loopw [5, 6, 19] (fun c s i wr => ∃ k : Nat, k ≤ 272 ∧ i = .int .i64 k ∧ c = .int .i64 ((c2 + (SqP.pre L n k).length : Nat) : Int) ∧ s = .int .i64 ((SqP.kr L (n - 1) + (SqP.pre L n k).length * p : Nat) : Int) ∧ (∃ cs, Row wr w.heap.size 3 cs ∧ cs.size = 272) ∧ Below w.heap.size w wr) (fun _ _ i _ => 272 - (intOf i).toNat)
      case atStart => exact ⟨0, by omega, rfl, rfl, by simp [SqP.pre], hcs, hbel⟩
      case round =>
        clear hcs hbel
        obtain ⟨k, hk, rfl, rfl, rfl, ⟨cs, hrow, hcs⟩, hbel⟩ := hrel
        have hpl := SqP.pre_len L n k
        have hpp : (SqP.pre L n k).length * p ≤ 272 * 16384 := Nat.mul_le_mul (by omega) h2m
        by_cases hk2 : k < 272
        · have hrl : Row wr lb 3 (ints L) := HR.out.below hbel HR.out.lt
          have hcl : wr.cell? ⟨lb, k, none⟩ = some (.int .i64 ((L.getD k 0 : Nat) : Int)) := (hrl.cell k).trans (ints_get _ _ (by omega))
          have hco : wr.cell? ⟨w.heap.size, k, none⟩ = some (cs[k]'(by omega)) := (hrow.cell k).trans (Array.getElem?_eq_getElem _)
          have hfo := hrow.frozen k
          generalize (cs[k]'(by omega)) = old at hco
          clear hrl
          by_cases he : L.getD k 0 = n
          · have HP := Bx.mk (SqP.pre_yes L n k he)
            have heq : (((L.getD k 0 : Nat) : Int) == (n : Int)) = true := by rw [he]; exact beq_self_eq_true _
            generalize L.getD k 0 = x at *
            have HX := Bx.mk he; clear he
            obtain ⟨t, ht⟩ : ∃ t, SqP.kr L (n - 1) + (SqP.pre L n k).length * p = t := ⟨_, rfl⟩
            have htl : t ≤ 134217728 := by omega
            rw [ht]
            have HT := Bx.mk ht; clear ht hpp
            go_wp2
            go_roundw
            case rel =>
              refine ⟨k + 1, by omega, by go_num, ?_, ?_, ⟨_, hrow.set k _, by rw [Array.size_setIfInBounds]; exact hcs⟩, hbel.setCell (Nat.le_refl _) _⟩
              · rw [HP.out, List.length_append]; go_num
              · rw [HP.out, List.length_append, Nat.add_mul, ← Nat.add_assoc, HT.out]
                congr 1
                simp
            case measure => simp [intOf]; omega
          · have HP := Bx.mk (SqP.pre_no L n k he)
            have heq : (((L.getD k 0 : Nat) : Int) == (n : Int)) = false := by rw [beq_eq_false_iff_ne]; omega
            generalize L.getD k 0 = x at *
            clear he
            go_wp2
            go_roundw
            case rel => exact ⟨k + 1, by omega, by go_num, by rw [HP.out], by rw [HP.out], ⟨_, hrow, hcs⟩, hbel⟩
            case measure => simp [intOf]; omega
        · obtain rfl : k = 272 := by omega
          have hd2 : decide ((272 : Int) < 272) = false := by decide
          go_wp2
          go_roundw
          case rel =>
            have e := HC2.out
            have e2 : n - 1 + 1 = n := by omega
            have hcan : SqP.ca L n = c2 + (SqP.pre L n 272).length := by
              conv => lhs; rw [← e2]
              simp only [SqP.ca, SqP.cnt, SqP.syms]; rw [e2, hL, e]
            have hkrn : SqP.kr L n = SqP.kr L (n - 1) + (SqP.pre L n 272).length * p := by
              conv => lhs; rw [← e2]
              simp only [SqP.kr, SqP.cnt, SqP.syms]; rw [e2, hL, ← HP2.out, HMN.out]
            refine ⟨n + 1, by omega, by omega, by go_num, ?_, ?_, ⟨_, hrow, hcs⟩, hbel⟩
            · rw [Nat.add_sub_cancel, hcan]
            · rw [Nat.add_sub_cancel, hkrn]
          case measure => simp [intOf]; omega
    · obtain rfl : n = 16 := by omega
      have hd2 : decide ((16 : Int) ≤ 15) = false := by decide
      go_wp2
      go_ret2
      refine ⟨?_, hbel⟩
      congr 2
      simp
      omega
end Go.Proofs.YtefklhjjhcobmaaDoor
