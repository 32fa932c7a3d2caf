/- References: the walks of the small functions. -/
import Derived.Test.YtgphgimbnflhfaaDoorStr
import Derived.Test.YtgphgimbnflhfaaDoorRfPlain4
set_option linter.unusedSimpArgs false
set_option linter.unusedVariables false
namespace Go.Proofs.YtgphgimbnflhfaaDoor
open Go.RowKit
theorem isLetter_eq (c : UInt8) : RfP.isLetter c = ((decide (65 ≤ (c.toNat : Int)) && decide ((c.toNat : Int) ≤ 90)) || (decide (97 ≤ (c.toNat : Int)) && decide ((c.toNat : Int) ≤ 122))) := by
  unfold RfP.isLetter
  rw [Bool.eq_iff_iff]; simp [UInt8.le_iff_toNat_le]; omega
theorem isDigit_eq (c : UInt8) : RfP.isDigit c = (decide (48 ≤ (c.toNat : Int)) && decide ((c.toNat : Int) ≤ 57)) := by
  unfold RfP.isDigit
  rw [Bool.eq_iff_iff]; simp [UInt8.le_iff_toNat_le]; omega
theorem letter_any (c : UInt8) (w : World) : Calls Tryd.prog 34 #[.int .u8 (c.toNat : Int)] w fun e w' => e = .returned (.bool (RfP.isLetter c)) ∧ w = w' := by
  have H := Bx.mk (isLetter_eq c)
  have hc := c.toNat_lt
  go_enter Tryd.func34, Tryd.ntmps34
  go_wp2
  all_goals (go_ret; refine ⟨ret_bool ?_, rfl⟩; rw [H.out, Bool.eq_iff_iff]; simp; omega)
theorem digit_any (c : UInt8) (w : World) : Calls Tryd.prog 36 #[.int .u8 (c.toNat : Int)] w fun e w' => e = .returned (.bool (RfP.isDigit c)) ∧ w = w' := by
  have H := Bx.mk (isDigit_eq c)
  have hc := c.toNat_lt
  go_enter Tryd.func36, Tryd.ntmps36
  go_wp2
  all_goals (go_ret; refine ⟨ret_bool ?_, rfl⟩; rw [H.out, Bool.eq_iff_iff]; simp; omega)
theorem rletter_any (c : UInt8) (w : World) : Calls Tryd.prog 13 #[.int .u8 (c.toNat : Int)] w fun e w' => e = .returned (.bool (RfP.isLetter c)) ∧ w = w' := by
  have H := Bx.mk (isLetter_eq c)
  have hc := c.toNat_lt
  go_enter Tryd.func13, Tryd.ntmps13
  go_wp2
  all_goals (go_ret; refine ⟨ret_bool ?_, rfl⟩; rw [H.out, Bool.eq_iff_iff]; simp; omega)
theorem rdigit_any (c : UInt8) (w : World) : Calls Tryd.prog 38 #[.int .u8 (c.toNat : Int)] w fun e w' => e = .returned (.bool (RfP.isDigit c)) ∧ w = w' := by
  have H := Bx.mk (isDigit_eq c)
  have hc := c.toNat_lt
  go_enter Tryd.func38, Tryd.ntmps38
  go_wp2
  all_goals (go_ret; refine ⟨ret_bool ?_, rfl⟩; rw [H.out, Bool.eq_iff_iff]; simp; omega)
def perm (n : Int) : Bool := decide (0 ≤ n ∧ n < 1073741824)
theorem permitted_any (n : Int) (w : World) : Calls Tryd.prog 32 #[.int .i64 n] w fun e w' => e = .returned (.bool (perm n)) ∧ w = w' := by
  have H := Bx.mk (show perm n = decide (0 ≤ n ∧ n < 1073741824) from rfl)
  go_enter Tryd.func32, Tryd.ntmps32
  go_wp2
  all_goals (go_ret; refine ⟨ret_bool ?_, rfl⟩; rw [H.out, Bool.eq_iff_iff]; simp; omega)
theorem inside_any (n : Int) (w : World) : Calls Tryd.prog 50 #[.int .i64 n] w fun e w' => e = .returned (.bool (perm n)) ∧ w = w' := by
  have H := Bx.mk (show perm n = decide (0 ≤ n ∧ n < 1073741824) from rfl)
  go_enter Tryd.func50, Tryd.ntmps50
  go_wp2
  all_goals (go_ret; refine ⟨ret_bool ?_, rfl⟩; rw [H.out, Bool.eq_iff_iff]; simp; omega)
set_option maxRecDepth 100000 in
theorem letters_any (c : Nat) (w : World) (hc : c < 1073741824) : Calls Tryd.prog 33 #[.int .i64 (c : Int)] w fun e w' => e = .returned (.string (bstr (RfP.ltr 8 (c + 1)))) ∧ Below w.heap.size w w' := by
  go_enter Tryd.func33, Tryd.ntmps33
  go_wp2
  go_loopw [3, 4] (fun s n wr => ∃ (f m : Nat) (t : List UInt8), f ≤ 8 ∧ m < 26 ^ f ∧ m ≤ 1073741824 ∧ n = .int .i64 (m : Int) ∧ s = .string (bstr t) ∧ RfP.ltr 8 (c + 1) = RfP.ltr f m ++ t ∧ t.length + f ≤ 8 ∧ Below w.heap.size w wr) (fun _ n _ => (intOf n).toNat)
  case atStart => exact ⟨8, c + 1, [], by omega, by omega, by omega, by go_num, rfl, by simp, by simp, Below.refl _ _⟩
  case round =>
    obtain ⟨f, m, t, hf, hm, hm2, rfl, rfl, hl, htf, hb⟩ := hrel
    have HL := Bx.mk hl; clear hl
    have HB := Bx.mk hb; clear hb
    have HM := Bx.mk hm; clear hm
    by_cases h0 : m = 0
    · subst h0
      have HS := Bx.mk (show RfP.ltr 8 (c + 1) = t by rw [HL.out, RfP.ltr_zero]; rfl)
      go_wp2
      go_ret
      exact ⟨ret_str HS.out.symm, HB.out⟩
    · obtain ⟨g, rfl⟩ : ∃ g, f = g + 1 := ⟨f - 1, by
        rcases f with _ | f
        · have := HM.out; omega
        · omega⟩
      have HS := Bx.mk (RfP.ltr_step g m h0)
      obtain ⟨q, hq⟩ : ∃ q : Nat, ((m : Int) - 1) / 26 = (q : Int) := ⟨(m - 1) / 26, by omega⟩
      obtain ⟨r, hr⟩ : ∃ r : Nat, ((m : Int) - 1) % 26 = (r : Int) := ⟨(m - 1) % 26, by omega⟩
      have HQ := Bx.mk (show q = (m - 1) / 26 by omega)
      have HR := Bx.mk (show r = (m - 1) % 26 by omega)
      have hr26 : r < 26 := by omega
      obtain ⟨d, hd⟩ : ∃ d : Nat, 65 + (r : Int) = (d : Int) := ⟨65 + r, by omega⟩
      have hcv := fun W => conv1 (P := Tryd.prog) (src := 56) (dst := 9) Tryd.underlying56 Tryd.underlying5 Tryd.underlying9 W d (by omega)
      have hadd : bstr [UInt8.ofNat d] ++ bstr t = bstr (UInt8.ofNat d :: t) := bstr_app _ _
      have h1 : (bstr [UInt8.ofNat d]).size = 1 := rfl
      have h2 : (bstr t).size ≤ 8 := by rw [bstr_size]; omega
      go_wp2
      go_roundw
      case rel => exact ⟨g, q, UInt8.ofNat d :: t, by omega, by have := HM.out; rw [Nat.pow_succ] at this; omega, by omega, by rw [hq], rfl, by rw [HL.out, HS.out, ← HQ.out, ← HR.out, show d = 65 + r by omega, List.append_assoc]; rfl, by simp; omega, HB.out.alloc HB.out.size _⟩
      case measure => simp [intOf]; omega
end Go.Proofs.YtgphgimbnflhfaaDoor
