/- The walk of the reference's Sum: a register of 32 bits. -/
import Derived.Test.YtefklhjjhcobmaaSumPlain2
import Derived.Test.YtefklhjjhcobmaaRows
import Derived.WalkKit
import Derived.BigQuiet
import Derived.Deep.QuietTactic
import Derived.Lib.Hide
import Derived.Handy
import Derived.WalkSmall
namespace Go.Proofs.Ytefklhjjhcobmaa
open Go.RowKit
theorem sum_snoc (s : ByteArray) (k : Nat) (h : k < s.size) :
    CrcP.sum (s.data.toList.take (k + 1)) = CrcP.upd (CrcP.sum (s.data.toList.take k)) s[k].toNat := by
  rw [List.take_succ_eq_append_getElem (by simpa using h)]
  unfold CrcP.sum
  rw [List.foldl_append]
  rfl
def reg (f : Nat → Nat) : Array Value := ((List.range 32).map fun j => Value.int .i64 (f j : Int)).toArray
theorem reg_get (f : Nat → Nat) (j : Nat) (h : j < 32) : (reg f)[j]? = some (Value.int .i64 (f j : Int)) := by simp [reg, h]
theorem reg_set (f : Nat → Nat) (j v : Nat) : (reg f).setIfInBounds j (.int .i64 (v : Int)) = reg (fun i => if i = j then v else f i) := by
  apply Array.ext_getElem?
  intro i
  simp only [Array.getElem?_setIfInBounds]
  by_cases h : i < 32
  · by_cases e : j = i
    · subst e; simp [reg, h]
    · have e' : ¬ i = j := fun x => e x.symm
      simp [reg, h, e, e']
  · by_cases e : j = i
    · subst e; simp [reg, h]
    · simp [reg, h, e]
theorem reg_ext {f g : Nat → Nat} (h : ∀ j, j < 32 → f j = g j) : reg f = reg g := by
  unfold reg
  congr 1
  apply List.map_congr_left
  intro j hj
  rw [h j (by simpa using hj)]
theorem zero28 (w : World) : (zeroValue 28).run Try.prog w = .ok (.agg (reg fun _ => 0)) w := by kernel_rfl
def holdsReg (w : World) (b : Nat) (f : Nat → Nat) : Prop := w.heap[b]? = some (.cells (reg f) 28 (0, 0))
theorem holdsReg.cell {w : World} {b : Nat} {f : Nat → Nat} (h : holdsReg w b f) (j : Nat) (hj : j < 32) : w.cell? ⟨b, j, none⟩ = some (.int .i64 (f j : Int)) := by
  rw [cell_of_row _ _ _ _ _ _ h, reg_get _ _ hj]
theorem holdsReg.frozen {w : World} {b : Nat} {f : Nat → Nat} (h : holdsReg w b f) (j : Nat) : w.frozen? ⟨b, j, none⟩ = false := frozen_of_row _ _ _ _ _ h
theorem holdsReg.set {w : World} {b : Nat} {f g : Nat → Nat} (h : holdsReg w b f) (j v : Nat) (hg : ∀ i, i < 32 → (if i = j then v else f i) = g i) : holdsReg (w.setCell ⟨b, j, none⟩ (.int .i64 (v : Int))) b g := by
  unfold holdsReg
  rw [heap_setCell_same _ _ _ _ _ _ h, reg_set, reg_ext hg]
theorem holdsReg.ext {w : World} {b : Nat} {f g : Nat → Nat} (h : holdsReg w b f) (hg : ∀ i, i < 32 → f i = g i) : holdsReg w b g := by
  unfold holdsReg
  rw [← reg_ext hg]; exact h
theorem holdsReg.drew {w : World} {b : Nat} {f : Nat → Nat} (h : holdsReg w b f) : holdsReg w.drew b f := h
set_option maxRecDepth 100000 in
set_option maxHeartbeats 1000000 in
theorem rsum_any (s : ByteArray) (w : World) (hs : s.size ≤ maxLen) :
    Calls Try.prog 5 #[.string s] w fun e w' => e = .returned (.int .i64 ((4294967295 - CrcP.sum s.data.toList : Nat) : Int)) ∧ Below w.heap.size w w' := by
  unfold maxLen at hs
  have hz := zero28
  go_enter Try.func5, Try.ntmps5
  go_wp2
  have hb0 : Below w.heap.size w (w.alloc (Obj.cells (reg fun _ => 0) 28)) := (Below.refl _ _).alloc (Nat.le_refl _) _
  have hr0 : holdsReg (w.alloc (Obj.cells (reg fun _ => 0) 28)) w.heap.size (fun _ => 0) := heap_alloc_new _ _
  have HB0 := Lib.hid hb0; clear hb0
  have HR0 := Lib.hid hr0; clear hr0
  go_loopw [13] (fun i wr => ∃ k : Nat, k ≤ 32 ∧ i = .int .i64 k ∧ holdsReg wr w.heap.size (fun j => if j < k then 1 else 0) ∧ Below w.heap.size w wr) (fun i _ => 32 - (intOf i).toNat)
  case atStart => exact ⟨0, by omega, rfl, HR0.out.ext (fun i _ => by simp), HB0.out⟩
  case round =>
    clear HB0 HR0
    obtain ⟨k, hk, rfl, hr, hb⟩ := hrel
    have HR := Lib.hid hr; clear hr
    have HB := Lib.hid hb; clear hb
    by_cases hlt : k < 32
    · have hd : decide ((k : Int) < 32) = true := by simp; omega
      have hc := HR.out.cell k hlt
      have hf := HR.out.frozen k
      go_wp2
      go_roundw
      case rel =>
        refine ⟨k + 1, by omega, by go_num, HR.out.set k 1 (fun i _ => ?_), HB.out.setCell (by simp) _⟩
        split <;> split <;> first | rfl | (split <;> omega) | omega
      case measure => simp [intOf]; omega
    · have hd : decide ((k : Int) < 32) = false := by simp; omega
      have hk32 := Lib.hid (show k = 32 by omega)
      go_wp2
      have HR0 := HR.out.ext (g := CrcP.bit (CrcP.sum ([] : List UInt8))) (fun i hi => by rw [if_pos (by rw [hk32.out]; exact hi)]; exact (CrcP.bit_ones i hi).symm)
      clear HR
      go_loopw [21] (fun i wr => ∃ k : Nat, k ≤ s.size ∧ i = .int .i64 k ∧ holdsReg wr w.heap.size (CrcP.bit (CrcP.sum (s.data.toList.take k))) ∧ Below w.heap.size w wr) (fun i _ => s.size - (intOf i).toNat)
      case atStart => exact ⟨0, by omega, rfl, HR0, HB.out⟩
      case round =>
        clear HR0 HB hd hlt hk hk32
        obtain ⟨i, hi, rfl, hr, hb⟩ := hrel
        have hcl := CrcP.sum_lt (s.data.toList.take i)
        by_cases hlt : i < s.size
        · have hn := sum_snoc s i hlt
          have HN := Lib.hid hn; clear hn
          generalize CrcP.sum (s.data.toList.take i) = c at *
          go_wp2
          go_loopw [24] (fun j wr => ∃ k : Nat, k ≤ 8 ∧ j = .int .i64 k ∧ holdsReg wr w.heap.size (CrcP.bit (CrcP.bs c s[i].toNat k)) ∧ Below w.heap.size w wr) (fun j _ => 8 - (intOf j).toNat)
          case atStart => exact ⟨0, by omega, rfl, hr, hb⟩
          case round =>
            clear hr hb
            obtain ⟨k, hk, rfl, hr, hb⟩ := hrel
            have hbl := CrcP.bs_lt hcl s[i].toNat k
            by_cases hlt8 : k < 8
            · have hd8 : decide ((k : Int) < 8) = true := by simp; omega
              have hc0 := hr.cell 0 (by omega)
              have hbt := s[i].toNat_lt
              have hx := CrcP.xbit_eq (CrcP.bs c s[i].toNat k) s[i].toNat 0 k (by omega)
              have hxl := CrcP.xbit_lt (CrcP.bs c s[i].toNat k) s[i].toNat 0 k
              have hS1 := CrcP.bs_one c s[i].toNat k
              have hS0 := CrcP.bs_zero c s[i].toNat k
              have HS1 := Lib.hid hS1; clear hS1
              have HS0 := Lib.hid hS0; clear hS0
              generalize CrcP.bit (CrcP.bs c s[i].toNat k) 0 ^^^ CrcP.bit s[i].toNat k = x at *
              generalize CrcP.bs c s[i].toNat k = C at *
              go_wp2
              go_quiet (fail)
              go_wp2
              have hr2 : holdsReg (wr.drewN nq) w.heap.size (CrcP.bit C) := hr
              have hb2 : Below w.heap.size w (wr.drewN nq) := below_drewN hb nq
              generalize wr.drewN nq = wq at *
              clear hr hb hx hc0
              go_loopw [9] (fun j wr => ∃ n : Nat, n ≤ 31 ∧ j = .int .i64 n ∧ holdsReg wr w.heap.size (fun j => if j < n then CrcP.bit C (j + 1) else CrcP.bit C j) ∧ Below w.heap.size w wr) (fun j _ => 31 - (intOf j).toNat)
              case atStart => exact ⟨0, by omega, rfl, hr2.ext (fun i _ => by simp), hb2⟩
              case round =>
                clear hr2 hb2
                obtain ⟨n, hn, rfl, hr, hb⟩ := hrel
                by_cases hn31 : n < 31
                · have hd9 : decide ((n : Int) < 31) = true := by simp; omega
                  have hc1 := hr.cell (n + 1) (by omega)
                  have hc2 := hr.cell n (by omega)
                  have hf2 := hr.frozen n
                  have e1 : ((n : Int) + 1).toNat = n + 1 := by omega
                  go_wp2
                  go_roundw
                  case rel =>
                    refine ⟨n + 1, by omega, by go_num, hr.set n _ (fun i _ => ?_), hb.setCell (by simp) _⟩
                    by_cases e : i = n
                    · subst e; simp
                    · rw [if_neg e]; by_cases h : i < n
                      · rw [if_pos h, if_pos (by omega)]
                      · rw [if_neg h, if_neg (by omega)]
                  case measure => simp [intOf]; omega
                · have hd9 : decide ((n : Int) < 31) = false := by simp; omega
                  obtain rfl : n = 31 := by omega
                  have hc31 := hr.cell 31 (by omega)
                  have hf31 := hr.frozen 31
                  have hrh : holdsReg (wr.setCell ⟨w.heap.size, 31, none⟩ (.int .i64 0)) w.heap.size (CrcP.bit (C / 2)) := by
                    refine hr.set 31 0 (fun i hi => ?_)
                    rw [CrcP.bit_half]
                    by_cases e : i = 31
                    · subst e; rw [if_pos rfl, CrcP.bit_hi _ _ hbl (by omega)]
                    · rw [if_neg e, if_pos (by omega)]
                  have hbh : Below w.heap.size w (wr.setCell ⟨w.heap.size, 31, none⟩ (.int .i64 0)) := hb.setCell (by simp) _
                  have HRH := Lib.hid hrh; clear hrh
                  have HBH := Lib.hid hbh; clear hbh
                  by_cases hx1 : x = 1
                  · have HD := Lib.hid (HS1.out hx1)
                    have hxt : ((x : Int) == 1) = true := by simp; omega
                    clear hx1
                    go_wp2
                    go_loopw [50] (fun j wr => ∃ n : Nat, n ≤ 32 ∧ j = .int .i64 n ∧ holdsReg wr w.heap.size (fun j => if j < n then CrcP.bit (C / 2) j ^^^ CrcP.bit 3988292384 j else CrcP.bit (C / 2) j) ∧ Below w.heap.size w wr) (fun j _ => 32 - (intOf j).toNat)
                    case atStart => exact ⟨0, by omega, rfl, HRH.out.ext (fun i _ => by simp), HBH.out⟩
                    case round =>
                      clear hr hb HRH HBH hc31 hf31
                      obtain ⟨n, hn, rfl, hr, hb⟩ := hrel
                      by_cases hn32 : n < 32
                      · have hd10 : decide ((n : Int) < 32) = true := by simp; omega
                        have hc1 := hr.cell n hn32
                        rw [if_neg (by omega)] at hc1
                        have hf1 := hr.frozen n
                        have HXP := Lib.hid (CrcP.poly_eq (C / 2) n)
                        go_wp2
                        go_region
                        go_wp2
                        go_roundw
                        case rel =>
                          rw [HXP.out]
                          refine ⟨n + 1, by omega, by go_num, ?_, (hb.setCell (by simp) _).drew⟩
                          refine holdsReg.drew (hr.set n _ (fun i _ => ?_))
                          by_cases e : i = n
                          · subst e; simp
                          · rw [if_neg e]; by_cases h : i < n
                            · rw [if_pos h, if_pos (by omega)]
                            · rw [if_neg h, if_neg (by omega)]
                        case measure => simp [intOf]; omega
                      · have hd10 : decide ((n : Int) < 32) = false := by simp; omega
                        obtain rfl : n = 32 := by omega
                        go_wp2
                        go_roundw
                        case rel =>
                          refine ⟨k + 1, by omega, by go_num, ?_, hb⟩
                          rw [HD.out]
                          refine hr.ext (fun i hi => ?_)
                          rw [if_pos hi, CrcP.bit_xor]
                        case measure => simp [intOf]; omega
                  · obtain rfl : x = 0 := by omega
                    have HD := Lib.hid (HS0.out rfl)
                    go_wp2
                    go_roundw
                    case rel => exact ⟨k + 1, by omega, by go_num, by rw [HD.out]; exact HRH.out, HBH.out⟩
                    case measure => simp [intOf]; omega
            · have hd8 : decide ((k : Int) < 8) = false := by simp; omega
              obtain rfl : k = 8 := by omega
              go_wp2
              go_roundw
              case rel =>
                refine ⟨i + 1, by omega, by go_num, ?_, hb⟩
                rw [HN.out, ← CrcP.bs8 c _ s[i].toNat_lt]; exact hr
              case measure => simp [intOf]; omega
        · obtain rfl : i = s.size := by omega
          go_wp2
          have e1 : s.data.toList.take s.size = s.data.toList := List.take_of_length_le (by simp)
          rw [e1] at hr hcl
          go_loop [11, 12] (fun v j => ∃ m : Nat, m ≤ 32 ∧ j = .int .i64 ((m : Int) - 1) ∧ v = .int .i64 (CrcP.val (CrcP.sum s.data.toList) m : Int)) (fun _ j => ((intOf j) + 1).toNat)
          case atStart => exact ⟨32, by omega, rfl, by rw [CrcP.val_top]; rfl⟩
          case round =>
            obtain ⟨m, hm, rfl, rfl⟩ := hrel
            have hvl := CrcP.val_lt (CrcP.sum s.data.toList) m
            by_cases hm0 : m = 0
            · subst hm0
              go_wp2
              go_ret
              exact ⟨by show Ending.returned (Value.int IntKind.i64 ↑(CrcP.val (CrcP.sum s.data.toList) 0)) = _; rw [CrcP.val_zero], hb⟩
            · have hvs := CrcP.val_step (CrcP.sum s.data.toList) (m - 1) hcl (by omega)
              rw [show m - 1 + 1 = m by omega] at hvs
              have hbl := CrcP.bit_lt (CrcP.sum s.data.toList) (m - 1)
              have hc := hr.cell (m - 1) (by omega)
              have HV := Lib.hid hvs; clear hvs
              have e1 : ((m : Int) - 1).toNat = m - 1 := by omega
              go_wp2
              go_round
              case rel =>
                have h := HV.out
                exact ⟨m - 1, by omega, congrArg (Value.int IntKind.i64) (by omega), congrArg (Value.int IntKind.i64) (by omega)⟩
              case measure => simp [intOf]; omega
end Go.Proofs.Ytefklhjjhcobmaa
