/- References: the walks of Letters, Column and Plain. -/
import Derived.Test.YtgphgimbnflhfaaDoorRfW1
import Derived.Test.YtgphgimbnflhfaaDoorBits
set_option linter.unusedSimpArgs false
set_option linter.unusedVariables false
namespace Go.Proofs.YtgphgimbnflhfaaDoor
open Go.RowKit
theorem u8_and31 (a : Nat) (ha : a < 256) : bits .and .u8 (a : Int) 31 = ((a % 32 : Nat) : Int) := by
  show IntKind.u8.wrap ((BitVec.ofInt 8 (a : Int) &&& BitVec.ofInt 8 ((31 : Nat) : Int)).toNat : Int) = _
  rw [BitVec.toNat_and, BitVec.ofInt_natCast, BitVec.ofInt_natCast, BitVec.toNat_ofNat, BitVec.toNat_ofNat, Nat.mod_eq_of_lt ha, Nat.mod_eq_of_lt (show 31 < 2 ^ 8 by omega), show 31 = 2 ^ 5 - 1 from rfl, Nat.and_two_pow_sub_one_eq_mod]
  have : a % 2 ^ 5 < 32 := Nat.mod_lt _ (by omega)
  simp [IntKind.wrap, IntKind.bits, IntKind.signed]
  omega
theorem Letters_ok (c : Nat) (w : World) (hc : c < 1073741824) : Calls Tryd.prog 9 #[.int .i64 (c : Int)] w fun e w' => e = .returned (.tuple #[.string (bstr (RfP.ltr 8 (c + 1))), .int .i64 0]) ∧ Below w.heap.size w w' := by
  have hp : perm (c : Int) = true := by unfold perm; simp; omega
  go_enter Tryd.func9, Tryd.ntmps9
  go_wp2_with (first | (go_at_call 32; refine (permitted_any _ _).mono ?_; rintro e w' ⟨rfl, rfl⟩) | (go_at_call 33; refine (letters_any c _ hc).mono ?_; rintro e w' ⟨rfl, hb⟩))
  go_ret2
  exact ⟨rfl, hb⟩
theorem Letters_no (c : Int) (w : World) (hp : perm c = false) : Calls Tryd.prog 9 #[.int .i64 c] w fun e w' => e = .returned (.tuple #[.string (bstr []), .int .i64 2]) ∧ w = w' := by
  go_enter Tryd.func9, Tryd.ntmps9
  go_wp2_with (first | (go_at_call 32; refine (permitted_any _ _).mono ?_; rintro e w' ⟨rfl, rfl⟩))
  go_ret2
  exact ⟨rfl, rfl⟩
namespace RfP
def colS (s : Str) : Int × Int := if s = [] ∨ 7 < s.length ∨ allL s = false then (0, 10) else if 1073741824 < val26 s then (0, 2) else ((val26 s : Int) - 1, 0)
end RfP
set_option maxRecDepth 100000 in
theorem Column_any (s : List UInt8) (w : World) : Calls Tryd.prog 11 #[.string (bstr s)] w fun e w' => e = .returned (.tuple #[.int .i64 (RfP.colS s).1, .int .i64 (RfP.colS s).2]) ∧ w = w' := by
  have H := Bx.mk (show RfP.colS s = if s = [] ∨ 7 < s.length ∨ RfP.allL s = false then (0, 10) else if 1073741824 < RfP.val26 s then (0, 2) else ((RfP.val26 s : Int) - 1, 0) from rfl)
  have hsz := bstr_size s
  by_cases h0 : s = []
  · rw [if_pos (Or.inl h0)] at H
    have he : (bstr s).toList.isEmpty = true := by rw [bstr_emp, h0]; rfl
    clear h0
    go_enter Tryd.func11, Tryd.ntmps11
    go_wp2
    go_ret2
    exact ⟨by rw [H.out]; rfl, rfl⟩
  have he : (bstr s).toList.isEmpty = false := by rw [bstr_emp]; simpa using h0
  by_cases h7 : 7 < s.length
  · rw [if_pos (Or.inr (Or.inl h7))] at H
    clear h0
    go_enter Tryd.func11, Tryd.ntmps11
    go_wp2
    go_ret2
    exact ⟨by rw [H.out]; rfl, rfl⟩
  go_enter Tryd.func11, Tryd.ntmps11
  go_wp2
  go_loop [4, 15] (fun n i => ∃ k : Nat, k ≤ s.length ∧ i = .int .i64 (k : Int) ∧ n = .int .i64 (RfP.val26 (s.take k) : Int) ∧ ∀ c ∈ s.take k, RfP.isLetter c = true) (fun _ i => s.length - (intOf i).toNat)
  case atStart => exact ⟨0, Nat.zero_le _, rfl, rfl, by simp⟩
  case round =>
    obtain ⟨k, hk, rfl, rfl, hal⟩ := hrel
    have hv := RfP.val26_lt (s.take k) hal
    have hv2 : 2 * 26 ^ (s.take k).length ≤ 2 * 26 ^ 7 := Nat.mul_le_mul_left 2 (Nat.pow_le_pow_right (by omega) (by rw [List.length_take]; omega))
    have hv3 : RfP.val26 (s.take k) ≤ 20000000000 := by omega
    clear hv hv2
    have HAL := Bx.mk hal; clear hal
    by_cases hlt : k < s.length
    · have HN := Bx.mk (take_next0 s k hlt)
      have hat := bstr_at s k (by rw [hsz]; exact hlt)
      have HV := Bx.mk (RfP.val26_snoc (s.take k) (s.getD k 0))
      have HM := Bx.mk (mem_getD s k hlt)
      generalize s.getD k 0 = c at *
      have hand := u8_and31 c.toNat c.toNat_lt
      have hm : c.toNat % 32 < 32 := Nat.mod_lt _ (by omega)
      by_cases hL : RfP.isLetter c = true
      · go_wp2_with (first | (go_at_call 34; refine (letter_any _ _).mono ?_; rintro e w' ⟨rfl, rfl⟩))
        go_round
        case rel =>
          refine ⟨k + 1, by omega, by go_num, by rw [HN.out, HV.out]; go_num, fun d hd => ?_⟩
          rw [HN.out] at hd
          rcases List.mem_append.1 hd with h | h
          · exact HAL.out d h
          · obtain rfl : d = c := by simpa using h
            exact hL
        case measure => simp [intOf]; omega
      · have hL' : RfP.isLetter c = false := by simpa using hL
        have hno : RfP.allL s = false := by
          unfold RfP.allL
          rw [List.all_eq_false]
          exact ⟨c, HM.out, by rw [hL']; decide⟩
        rw [if_pos (Or.inr (Or.inr hno))] at H
        clear hL h0 hno
        go_wp2_with (first | (go_at_call 34; refine (letter_any _ _).mono ?_; rintro e w' ⟨rfl, rfl⟩))
        go_ret2
        exact ⟨by rw [H.out]; rfl, rfl⟩
    · obtain rfl : k = s.length := by omega
      rw [List.take_length] at *
      have hall : RfP.allL s = true := by unfold RfP.allL; rw [List.all_eq_true]; exact HAL.out
      rw [if_neg (by simp [h0, h7, hall])] at H
      clear hall h0
      by_cases hbig : 1073741824 < RfP.val26 s
      · rw [if_pos hbig] at H
        go_wp2
        go_ret2
        exact ⟨by rw [H.out]; rfl, rfl⟩
      · rw [if_neg hbig] at H
        go_wp2
        go_ret2
        exact ⟨by rw [H.out]; rfl, rfl⟩
theorem plain_eq (s : List UInt8) : RfP.plain s = (!s.isEmpty && (RfP.isLetter (s.getD 0 0) && s.all RfP.plainC)) := by
  cases s with
  | nil => rfl
  | cons c r =>
    show (RfP.isLetter c && r.all RfP.plainC) = (RfP.isLetter c && (RfP.plainC c && r.all RfP.plainC))
    unfold RfP.plainC
    cases RfP.isLetter c <;> simp
theorem plain_no (s : List UInt8) (c : UInt8) (hm : c ∈ s) (h : RfP.plainC c = false) : RfP.plain s = false := by
  rw [plain_eq, show s.all RfP.plainC = false from by rw [List.all_eq_false]; exact ⟨c, hm, by rw [h]; decide⟩]; simp
set_option maxRecDepth 100000 in
set_option maxHeartbeats 2000000 in
theorem Plain_any (s : List UInt8) (w : World) (hs : s.length ≤ 9223372036854775807) : Calls Tryd.prog 15 #[.string (bstr s)] w fun e w' => e = .returned (.bool (RfP.plain s)) ∧ w = w' := by
  have hsz := bstr_size s
  go_enter Tryd.func15, Tryd.ntmps15
  go_wp2
  go_loop [7] (fun i => ∃ k : Nat, k ≤ s.length ∧ i = .int .i64 (k : Int) ∧ (0 < k → RfP.isLetter (s.getD 0 0) = true) ∧ ∀ c ∈ s.take k, RfP.plainC c = true) (fun i => s.length - (intOf i).toNat)
  case atStart => exact ⟨0, Nat.zero_le _, rfl, fun h => absurd h (by omega), by simp⟩
  case round =>
    obtain ⟨k, hk, rfl, h1, hal⟩ := hrel
    have HAL := Bx.mk hal; clear hal
    have H1 := Bx.mk h1; clear h1
    by_cases hlt : k < s.length
    · have hat := bstr_at s k (by rw [hsz]; exact hlt)
      have HN := Bx.mk (take_next0 s k hlt)
      have HM := Bx.mk (mem_getD s k hlt)
      have HK := Bx.mk (fun h : k = 0 => show s.getD 0 0 = s.getD k 0 by rw [h])
      generalize s.getD k 0 = c at *
      have HP := Bx.mk (show RfP.plainC c = (RfP.isLetter c || RfP.isDigit c || c == 95) from rfl)
      have go : RfP.plainC c = true → (0 < k + 1 → RfP.isLetter (s.getD 0 0) = true) → ∃ k' : Nat, k' ≤ s.length ∧ Value.int .i64 ((k : Int) + 1) = .int .i64 (k' : Int) ∧ (0 < k' → RfP.isLetter (s.getD 0 0) = true) ∧ ∀ c ∈ s.take k', RfP.plainC c = true := fun ha hb => by
        refine ⟨k + 1, by omega, by go_num, hb, fun d hd => ?_⟩
        rw [HN.out] at hd
        rcases List.mem_append.1 hd with h | h
        · exact HAL.out d h
        · obtain rfl : d = c := by simpa using h
          exact ha
      have GO := Bx.mk go; clear go
      by_cases hL : RfP.isLetter c = true
      · go_wp2_with (first | (go_at_call 34; refine (letter_any _ _).mono ?_; rintro e w' ⟨rfl, rfl⟩))
        go_round
        case rel =>
          refine GO.out (by rw [HP.out, hL]; rfl) (fun _ => ?_)
          by_cases h0 : k = 0
          · rw [HK.out h0]; exact hL
          · exact H1.out (by omega)
        case measure => simp [intOf]; omega
      · have hL' : RfP.isLetter c = false := by simpa using hL
        clear hL
        by_cases h0 : k = 0
        · have HF := Bx.mk (show RfP.plain s = false by rw [plain_eq, HK.out h0, hL']; simp)
          subst h0
          rw [show ((0 : Nat) : Int) = 0 from rfl]
          go_wp2_with (first | (go_at_call 34; refine (letter_any _ _).mono ?_; rintro e w' ⟨rfl, rfl⟩))
          go_ret
          exact ⟨by rw [HF.out]; rfl, rfl⟩
        · have hk0 : ((k : Int) == 0) = false := by simp; omega
          have H10 := H1.out (by omega)
          have HI := Bx.mk H10; clear H10
          by_cases hD : RfP.isDigit c = true
          · go_wp2_with (first | (go_at_call 34; refine (letter_any _ _).mono ?_; rintro e w' ⟨rfl, rfl⟩) | (go_at_call 36; refine (digit_any _ _).mono ?_; rintro e w' ⟨rfl, rfl⟩))
            go_round
            case rel => exact GO.out (by rw [HP.out, hL', hD]; rfl) (fun _ => HI.out)
            case measure => simp [intOf]; omega
          · have hD' : RfP.isDigit c = false := by simpa using hD
            clear hD
            by_cases h95 : c = 95
            · have hc : ((c.toNat : Int) != 95) = false := by rw [h95]; rfl
              have H95 := Bx.mk h95; clear h95
              go_wp2_with (first | (go_at_call 34; refine (letter_any _ _).mono ?_; rintro e w' ⟨rfl, rfl⟩) | (go_at_call 36; refine (digit_any _ _).mono ?_; rintro e w' ⟨rfl, rfl⟩))
              go_round
              case rel => exact GO.out (by rw [HP.out, hL', hD', H95.out]; rfl) (fun _ => HI.out)
              case measure => simp [intOf]; omega
            · have hc : ((c.toNat : Int) != 95) = true := by
                rw [bne_iff_ne]; intro e
                exact h95 (UInt8.toNat_inj.1 (by rw [show (95 : UInt8).toNat = 95 from rfl]; omega))
              have HF := Bx.mk (plain_no s c HM.out (by rw [HP.out, hL', hD', beq_eq_false_iff_ne.2 h95]; rfl))
              go_wp2_with (first | (go_at_call 34; refine (letter_any _ _).mono ?_; rintro e w' ⟨rfl, rfl⟩) | (go_at_call 36; refine (digit_any _ _).mono ?_; rintro e w' ⟨rfl, rfl⟩))
              go_ret
              exact ⟨by rw [HF.out]; rfl, rfl⟩
    · obtain rfl : k = s.length := by omega
      rw [List.take_length] at *
      have hall : s.all RfP.plainC = true := by rw [List.all_eq_true]; exact HAL.out
      by_cases h0 : s = []
      · have HF := Bx.mk (show RfP.plain s = false by rw [h0]; rfl)
        have he : (!(bstr s).toList.isEmpty) = false := by rw [bstr_emp, h0]; rfl
        have hs0 : s.length = 0 := by rw [h0]; rfl
        clear h0 hall
        go_wp2
        go_ret
        exact ⟨by rw [HF.out]; rfl, rfl⟩
      · have hpos : 0 < s.length := List.length_pos_iff.2 h0
        have he0 : s.isEmpty = false := by simpa using h0
        have HF := Bx.mk (show RfP.plain s = true by rw [plain_eq, H1.out hpos, hall, he0]; rfl)
        have he : (!(bstr s).toList.isEmpty) = true := by rw [bstr_emp, he0]; rfl
        clear h0 hall he0
        go_wp2
        go_ret
        exact ⟨by rw [HF.out]; rfl, rfl⟩
end Go.Proofs.YtgphgimbnflhfaaDoor
