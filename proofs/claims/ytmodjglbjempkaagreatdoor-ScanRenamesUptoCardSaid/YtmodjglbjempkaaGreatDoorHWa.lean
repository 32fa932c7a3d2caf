/- References: the walks of the small functions. References: the walks of Letters, Column and Plain. References: the walks of the reference's All, Upper and Plain. References: the walks of the reference's Letters and Column. -/
import Derived.Test.YtmodjglbjempkaaGreatDoorHMa
import Derived.Test.YtmodjglbjempkaaGreatDoorHPa
set_option linter.unusedSimpArgs false
set_option linter.unusedVariables false
namespace Go.Proofs.YtmodjglbjempkaaGreatDoor
open Go.RowKit
theorem isLetter_eq (c : UInt8) : RfP.isLetter c = ((decide (65 ≤ (c.toNat : Int)) && decide ((c.toNat : Int) ≤ 90)) || (decide (97 ≤ (c.toNat : Int)) && decide ((c.toNat : Int) ≤ 122))) := by
  unfold RfP.isLetter
  rw [Bool.eq_iff_iff]; simp [UInt8.le_iff_toNat_le]; omega
theorem isDigit_eq (c : UInt8) : RfP.isDigit c = (decide (48 ≤ (c.toNat : Int)) && decide ((c.toNat : Int) ≤ 57)) := by
  unfold RfP.isDigit
  rw [Bool.eq_iff_iff]; simp [UInt8.le_iff_toNat_le]; omega
theorem letter_any (c : UInt8) (w : World) : Calls Tryz.prog 125 #[.int .u8 (c.toNat : Int)] w fun e w' => e = .returned (.bool (RfP.isLetter c)) ∧ w = w' := by
  have H := Bx.mk (isLetter_eq c)
  have hc := c.toNat_lt
  go_enter Tryz.func125, Tryz.ntmps125
  go_wp2
  all_goals (go_ret; refine ⟨ret_bool ?_, rfl⟩; rw [H.out, Bool.eq_iff_iff]; simp; omega)
theorem digit_any (c : UInt8) (w : World) : Calls Tryz.prog 126 #[.int .u8 (c.toNat : Int)] w fun e w' => e = .returned (.bool (RfP.isDigit c)) ∧ w = w' := by
  have H := Bx.mk (isDigit_eq c)
  have hc := c.toNat_lt
  go_enter Tryz.func126, Tryz.ntmps126
  go_wp2
  all_goals (go_ret; refine ⟨ret_bool ?_, rfl⟩; rw [H.out, Bool.eq_iff_iff]; simp; omega)
theorem rletter_any (c : UInt8) (w : World) : Calls Tryz.prog 67 #[.int .u8 (c.toNat : Int)] w fun e w' => e = .returned (.bool (RfP.isLetter c)) ∧ w = w' := by
  have H := Bx.mk (isLetter_eq c)
  have hc := c.toNat_lt
  go_enter Tryz.func67, Tryz.ntmps67
  go_wp2
  all_goals (go_ret; refine ⟨ret_bool ?_, rfl⟩; rw [H.out, Bool.eq_iff_iff]; simp; omega)
theorem rdigit_any (c : UInt8) (w : World) : Calls Tryz.prog 69 #[.int .u8 (c.toNat : Int)] w fun e w' => e = .returned (.bool (RfP.isDigit c)) ∧ w = w' := by
  have H := Bx.mk (isDigit_eq c)
  have hc := c.toNat_lt
  go_enter Tryz.func69, Tryz.ntmps69
  go_wp2
  all_goals (go_ret; refine ⟨ret_bool ?_, rfl⟩; rw [H.out, Bool.eq_iff_iff]; simp; omega)
def perm (n : Int) : Bool := decide (0 ≤ n ∧ n < 1073741824)
theorem permitted_any (n : Int) (w : World) : Calls Tryz.prog 102 #[.int .i64 n] w fun e w' => e = .returned (.bool (perm n)) ∧ w = w' := by
  have H := Bx.mk (show perm n = decide (0 ≤ n ∧ n < 1073741824) from rfl)
  go_enter Tryz.func102, Tryz.ntmps102
  go_wp2
  all_goals (go_ret; refine ⟨ret_bool ?_, rfl⟩; rw [H.out, Bool.eq_iff_iff]; simp; omega)
theorem inside_any (n : Int) (w : World) : Calls Tryz.prog 52 #[.int .i64 n] w fun e w' => e = .returned (.bool (perm n)) ∧ w = w' := by
  have H := Bx.mk (show perm n = decide (0 ≤ n ∧ n < 1073741824) from rfl)
  go_enter Tryz.func52, Tryz.ntmps52
  go_wp2
  all_goals (go_ret; refine ⟨ret_bool ?_, rfl⟩; rw [H.out, Bool.eq_iff_iff]; simp; omega)
set_option maxRecDepth 100000 in
theorem letters_any (c : Nat) (w : World) (hc : c < 1073741824) : Calls Tryz.prog 147 #[.int .i64 (c : Int)] w fun e w' => e = .returned (.string (bstr (RfP.ltr 8 (c + 1)))) ∧ Below w.heap.size w w' := by
  go_enter Tryz.func147, Tryz.ntmps147
  go_wp2
  go_loopw [3, 4] (fun s n wr => ∃ (f m : Nat) (t : List UInt8), f ≤ 8 ∧ m < 26 ^ f ∧ m ≤ 1073741824 ∧ n = .int .i64 (m : Int) ∧ s = .string (bstr t) ∧ RfP.ltr 8 (c + 1) = RfP.ltr f m ++ t ∧ t.length + f ≤ 8 ∧ Below w.heap.size w wr) (fun _ n _ => (intOf n).toNat)
  case atStart => exact ⟨8, c + 1, [], by omega, by omega, by omega, by go_num, rfl, by simp, by simp, Below.refl _ _⟩
  case round =>
    obtain ⟨f, m, t, hf, hm, hm2, rfl, rfl, hl, htf, hb⟩ := hrel
    have HL := Bx.mk hl; clear hl
    have HB := Bx.mk hb; clear hb
    have HM := Bx.mk hm; clear hm
    by_cases h0 : m = 0
    · subst h0
      have HS := Bx.mk (show RfP.ltr 8 (c + 1) = t by rw [HL.out, RfP.ltr_zero]; rfl)
      go_wp2
      go_ret
      exact ⟨ret_str HS.out.symm, HB.out⟩
    · obtain ⟨g, rfl⟩ : ∃ g, f = g + 1 := ⟨f - 1, by
        rcases f with _ | f
        · have := HM.out; omega
        · omega⟩
      have HS := Bx.mk (RfP.ltr_step g m h0)
      obtain ⟨q, hq⟩ : ∃ q : Nat, ((m : Int) - 1) / 26 = (q : Int) := ⟨(m - 1) / 26, by omega⟩
      obtain ⟨r, hr⟩ : ∃ r : Nat, ((m : Int) - 1) % 26 = (r : Int) := ⟨(m - 1) % 26, by omega⟩
      have HQ := Bx.mk (show q = (m - 1) / 26 by omega)
      have HR := Bx.mk (show r = (m - 1) % 26 by omega)
      have hr26 : r < 26 := by omega
      obtain ⟨d, hd⟩ : ∃ d : Nat, 65 + (r : Int) = (d : Int) := ⟨65 + r, by omega⟩
      have hcv := fun W => conv1 (P := Tryz.prog) (src := 83) (dst := 9) Tryz.underlying83 Tryz.underlying5 Tryz.underlying9 W d (by omega)
      have hadd : bstr [UInt8.ofNat d] ++ bstr t = bstr (UInt8.ofNat d :: t) := bstr_app _ _
      have h1 : (bstr [UInt8.ofNat d]).size = 1 := rfl
      have h2 : (bstr t).size ≤ 8 := by rw [bstr_size]; omega
      go_wp2
      go_roundw
      case rel => exact ⟨g, q, UInt8.ofNat d :: t, by omega, by have := HM.out; rw [Nat.pow_succ] at this; omega, by omega, by rw [hq], rfl, by rw [HL.out, HS.out, ← HQ.out, ← HR.out, show d = 65 + r by omega, List.append_assoc]; rfl, by simp; omega, HB.out.alloc HB.out.size _⟩
      case measure => simp [intOf]; omega
end Go.Proofs.YtmodjglbjempkaaGreatDoor
namespace Go.Proofs.YtmodjglbjempkaaGreatDoor
open Go.RowKit
theorem u8_and31 (a : Nat) (ha : a < 256) : bits .and .u8 (a : Int) 31 = ((a % 32 : Nat) : Int) := by
  show IntKind.u8.wrap ((BitVec.ofInt 8 (a : Int) &&& BitVec.ofInt 8 ((31 : Nat) : Int)).toNat : Int) = _
  rw [BitVec.toNat_and, BitVec.ofInt_natCast, BitVec.ofInt_natCast, BitVec.toNat_ofNat, BitVec.toNat_ofNat, Nat.mod_eq_of_lt ha, Nat.mod_eq_of_lt (show 31 < 2 ^ 8 by omega), show 31 = 2 ^ 5 - 1 from rfl, Nat.and_two_pow_sub_one_eq_mod]
  have : a % 2 ^ 5 < 32 := Nat.mod_lt _ (by omega)
  simp [IntKind.wrap, IntKind.bits, IntKind.signed]
  omega
namespace RfP
def colS (s : Str) : Int × Int := if s = [] ∨ 7 < s.length ∨ allL s = false then (0, 10) else if 1073741824 < val26 s then (0, 2) else ((val26 s : Int) - 1, 0)
end RfP
set_option maxRecDepth 100000 in
theorem Column_any (s : List UInt8) (w : World) : Calls Tryz.prog 128 #[.string (bstr s)] w fun e w' => e = .returned (.tuple #[.int .i64 (RfP.colS s).1, .int .i64 (RfP.colS s).2]) ∧ w = w' := by
  have H := Bx.mk (show RfP.colS s = if s = [] ∨ 7 < s.length ∨ RfP.allL s = false then (0, 10) else if 1073741824 < RfP.val26 s then (0, 2) else ((RfP.val26 s : Int) - 1, 0) from rfl)
  have hsz := bstr_size s
  by_cases h0 : s = []
  · rw [if_pos (Or.inl h0)] at H
    have he : (bstr s).toList.isEmpty = true := by rw [bstr_emp, h0]; rfl
    clear h0
    go_enter Tryz.func128, Tryz.ntmps128
    go_wp2
    go_ret2
    exact ⟨by rw [H.out]; rfl, rfl⟩
  have he : (bstr s).toList.isEmpty = false := by rw [bstr_emp]; simpa using h0
  by_cases h7 : 7 < s.length
  · rw [if_pos (Or.inr (Or.inl h7))] at H
    clear h0
    go_enter Tryz.func128, Tryz.ntmps128
    go_wp2
    go_ret2
    exact ⟨by rw [H.out]; rfl, rfl⟩
  go_enter Tryz.func128, Tryz.ntmps128
  go_wp2
  go_loop [4, 15] (fun n i => ∃ k : Nat, k ≤ s.length ∧ i = .int .i64 (k : Int) ∧ n = .int .i64 (RfP.val26 (s.take k) : Int) ∧ ∀ c ∈ s.take k, RfP.isLetter c = true) (fun _ i => s.length - (intOf i).toNat)
  case atStart => exact ⟨0, Nat.zero_le _, rfl, rfl, by simp⟩
  case round =>
    obtain ⟨k, hk, rfl, rfl, hal⟩ := hrel
    have hv := RfP.val26_lt (s.take k) hal
    have hv2 : 2 * 26 ^ (s.take k).length ≤ 2 * 26 ^ 7 := Nat.mul_le_mul_left 2 (Nat.pow_le_pow_right (by omega) (by rw [List.length_take]; omega))
    have hv3 : RfP.val26 (s.take k) ≤ 20000000000 := by omega
    clear hv hv2
    have HAL := Bx.mk hal; clear hal
    by_cases hlt : k < s.length
    · have HN := Bx.mk (take_next0 s k hlt)
      have hat := bstr_at s k (by rw [hsz]; exact hlt)
      have HV := Bx.mk (RfP.val26_snoc (s.take k) (s.getD k 0))
      have HM := Bx.mk (mem_getD s k hlt)
      generalize s.getD k 0 = c at *
      have hand := u8_and31 c.toNat c.toNat_lt
      have hm : c.toNat % 32 < 32 := Nat.mod_lt _ (by omega)
      by_cases hL : RfP.isLetter c = true
      · go_wp2_with (first | (go_at_call 125; refine (letter_any _ _).mono ?_; rintro e w' ⟨rfl, rfl⟩))
        go_round
        case rel =>
          refine ⟨k + 1, by omega, by go_num, by rw [HN.out, HV.out]; go_num, fun d hd => ?_⟩
          rw [HN.out] at hd
          rcases List.mem_append.1 hd with h | h
          · exact HAL.out d h
          · obtain rfl : d = c := by simpa using h
            exact hL
        case measure => simp [intOf]; omega
      · have hL' : RfP.isLetter c = false := by simpa using hL
        have hno : RfP.allL s = false := by
          unfold RfP.allL
          rw [List.all_eq_false]
          exact ⟨c, HM.out, by rw [hL']; decide⟩
        rw [if_pos (Or.inr (Or.inr hno))] at H
        clear hL h0 hno
        go_wp2_with (first | (go_at_call 125; refine (letter_any _ _).mono ?_; rintro e w' ⟨rfl, rfl⟩))
        go_ret2
        exact ⟨by rw [H.out]; rfl, rfl⟩
    · obtain rfl : k = s.length := by omega
      rw [List.take_length] at *
      have hall : RfP.allL s = true := by unfold RfP.allL; rw [List.all_eq_true]; exact HAL.out
      rw [if_neg (by simp [h0, h7, hall])] at H
      clear hall h0
      by_cases hbig : 1073741824 < RfP.val26 s
      · rw [if_pos hbig] at H
        go_wp2
        go_ret2
        exact ⟨by rw [H.out]; rfl, rfl⟩
      · rw [if_neg hbig] at H
        go_wp2
        go_ret2
        exact ⟨by rw [H.out]; rfl, rfl⟩
theorem plain_eq (s : List UInt8) : RfP.plain s = (!s.isEmpty && (RfP.isLetter (s.getD 0 0) && s.all RfP.plainC)) := by
  cases s with
  | nil => rfl
  | cons c r =>
    show (RfP.isLetter c && r.all RfP.plainC) = (RfP.isLetter c && (RfP.plainC c && r.all RfP.plainC))
    unfold RfP.plainC
    cases RfP.isLetter c <;> simp
theorem plain_no (s : List UInt8) (c : UInt8) (hm : c ∈ s) (h : RfP.plainC c = false) : RfP.plain s = false := by
  rw [plain_eq, show s.all RfP.plainC = false from by rw [List.all_eq_false]; exact ⟨c, hm, by rw [h]; decide⟩]; simp
set_option maxRecDepth 100000 in
set_option maxHeartbeats 2000000 in
theorem Plain_any (s : List UInt8) (w : World) (hs : s.length ≤ 9223372036854775807) : Calls Tryz.prog 119 #[.string (bstr s)] w fun e w' => e = .returned (.bool (RfP.plain s)) ∧ w = w' := by
  have hsz := bstr_size s
  go_enter Tryz.func119, Tryz.ntmps119
  go_wp2
  go_loop [7] (fun i => ∃ k : Nat, k ≤ s.length ∧ i = .int .i64 (k : Int) ∧ (0 < k → RfP.isLetter (s.getD 0 0) = true) ∧ ∀ c ∈ s.take k, RfP.plainC c = true) (fun i => s.length - (intOf i).toNat)
  case atStart => exact ⟨0, Nat.zero_le _, rfl, fun h => absurd h (by omega), by simp⟩
  case round =>
    obtain ⟨k, hk, rfl, h1, hal⟩ := hrel
    have HAL := Bx.mk hal; clear hal
    have H1 := Bx.mk h1; clear h1
    by_cases hlt : k < s.length
    · have hat := bstr_at s k (by rw [hsz]; exact hlt)
      have HN := Bx.mk (take_next0 s k hlt)
      have HM := Bx.mk (mem_getD s k hlt)
      have HK := Bx.mk (fun h : k = 0 => show s.getD 0 0 = s.getD k 0 by rw [h])
      generalize s.getD k 0 = c at *
      have HP := Bx.mk (show RfP.plainC c = (RfP.isLetter c || RfP.isDigit c || c == 95) from rfl)
      have go : RfP.plainC c = true → (0 < k + 1 → RfP.isLetter (s.getD 0 0) = true) → ∃ k' : Nat, k' ≤ s.length ∧ Value.int .i64 ((k : Int) + 1) = .int .i64 (k' : Int) ∧ (0 < k' → RfP.isLetter (s.getD 0 0) = true) ∧ ∀ c ∈ s.take k', RfP.plainC c = true := fun ha hb => by
        refine ⟨k + 1, by omega, by go_num, hb, fun d hd => ?_⟩
        rw [HN.out] at hd
        rcases List.mem_append.1 hd with h | h
        · exact HAL.out d h
        · obtain rfl : d = c := by simpa using h
          exact ha
      have GO := Bx.mk go; clear go
      by_cases hL : RfP.isLetter c = true
      · go_wp2_with (first | (go_at_call 125; refine (letter_any _ _).mono ?_; rintro e w' ⟨rfl, rfl⟩))
        go_round
        case rel =>
          refine GO.out (by rw [HP.out, hL]; rfl) (fun _ => ?_)
          by_cases h0 : k = 0
          · rw [HK.out h0]; exact hL
          · exact H1.out (by omega)
        case measure => simp [intOf]; omega
      · have hL' : RfP.isLetter c = false := by simpa using hL
        clear hL
        by_cases h0 : k = 0
        · have HF := Bx.mk (show RfP.plain s = false by rw [plain_eq, HK.out h0, hL']; simp)
          subst h0
          rw [show ((0 : Nat) : Int) = 0 from rfl]
          go_wp2_with (first | (go_at_call 125; refine (letter_any _ _).mono ?_; rintro e w' ⟨rfl, rfl⟩))
          go_ret
          exact ⟨by rw [HF.out]; rfl, rfl⟩
        · have hk0 : ((k : Int) == 0) = false := by simp; omega
          have H10 := H1.out (by omega)
          have HI := Bx.mk H10; clear H10
          by_cases hD : RfP.isDigit c = true
          · go_wp2_with (first | (go_at_call 125; refine (letter_any _ _).mono ?_; rintro e w' ⟨rfl, rfl⟩) | (go_at_call 126; refine (digit_any _ _).mono ?_; rintro e w' ⟨rfl, rfl⟩))
            go_round
            case rel => exact GO.out (by rw [HP.out, hL', hD]; rfl) (fun _ => HI.out)
            case measure => simp [intOf]; omega
          · have hD' : RfP.isDigit c = false := by simpa using hD
            clear hD
            by_cases h95 : c = 95
            · have hc : ((c.toNat : Int) != 95) = false := by rw [h95]; rfl
              have H95 := Bx.mk h95; clear h95
              go_wp2_with (first | (go_at_call 125; refine (letter_any _ _).mono ?_; rintro e w' ⟨rfl, rfl⟩) | (go_at_call 126; refine (digit_any _ _).mono ?_; rintro e w' ⟨rfl, rfl⟩))
              go_round
              case rel => exact GO.out (by rw [HP.out, hL', hD', H95.out]; rfl) (fun _ => HI.out)
              case measure => simp [intOf]; omega
            · have hc : ((c.toNat : Int) != 95) = true := by
                rw [bne_iff_ne]; intro e
                exact h95 (UInt8.toNat_inj.1 (by rw [show (95 : UInt8).toNat = 95 from rfl]; omega))
              have HF := Bx.mk (plain_no s c HM.out (by rw [HP.out, hL', hD', beq_eq_false_iff_ne.2 h95]; rfl))
              go_wp2_with (first | (go_at_call 125; refine (letter_any _ _).mono ?_; rintro e w' ⟨rfl, rfl⟩) | (go_at_call 126; refine (digit_any _ _).mono ?_; rintro e w' ⟨rfl, rfl⟩))
              go_ret
              exact ⟨by rw [HF.out]; rfl, rfl⟩
    · obtain rfl : k = s.length := by omega
      rw [List.take_length] at *
      have hall : s.all RfP.plainC = true := by rw [List.all_eq_true]; exact HAL.out
      by_cases h0 : s = []
      · have HF := Bx.mk (show RfP.plain s = false by rw [h0]; rfl)
        have he : (!(bstr s).toList.isEmpty) = false := by rw [bstr_emp, h0]; rfl
        have hs0 : s.length = 0 := by rw [h0]; rfl
        clear h0 hall
        go_wp2
        go_ret
        exact ⟨by rw [HF.out]; rfl, rfl⟩
      · have hpos : 0 < s.length := List.length_pos_iff.2 h0
        have he0 : s.isEmpty = false := by simpa using h0
        have HF := Bx.mk (show RfP.plain s = true by rw [plain_eq, H1.out hpos, hall, he0]; rfl)
        have he : (!(bstr s).toList.isEmpty) = true := by rw [bstr_emp, he0]; rfl
        clear h0 hall he0
        go_wp2
        go_ret
        exact ⟨by rw [HF.out]; rfl, rfl⟩
end Go.Proofs.YtmodjglbjempkaaGreatDoor
namespace Go.Proofs.YtmodjglbjempkaaGreatDoor
open Go.RowKit
def PredC (f : FuncId) (p : UInt8 → Bool) : Prop := ∀ (c : UInt8) (w : World), Calls Tryz.prog f #[.int .u8 (c.toNat : Int)] w fun e w' => e = .returned (.bool (p c)) ∧ w = w'
set_option maxRecDepth 100000 in
theorem All_any (f : FuncId) (p : UInt8 → Bool) (HF : Bx (PredC f p)) (ef : ∀ args w, (callFunc f args).run Tryz.prog w = .ok (.enter f args) w) (s : List UInt8) (w : World) (hs : s.length ≤ 9223372036854775807) :
    Calls Tryz.prog 59 #[.string (bstr s), .func (Fn.func f) #[] #[]] w fun e w' => e = .returned (.bool (s.all p)) ∧ w = w' := by
  have hsz := bstr_size s
  go_enter Tryz.func59, Tryz.ntmps59
  go_wp2
  go_loop [8] (fun i => ∃ k : Nat, k ≤ s.length ∧ i = .int .i64 (k : Int) ∧ ∀ c ∈ s.take k, p c = true) (fun i => s.length - (intOf i).toNat)
  case atStart => exact ⟨0, Nat.zero_le _, rfl, by simp⟩
  case round =>
    obtain ⟨k, hk, rfl, hal⟩ := hrel
    have HAL := Bx.mk hal; clear hal
    by_cases hlt : k < s.length
    · have HN := Bx.mk (take_next0 s k hlt)
      have hat := bstr_at s k (by rw [hsz]; exact hlt)
      have HM := Bx.mk (mem_getD s k hlt)
      generalize s.getD k 0 = c at *
      by_cases hp : p c = true
      · go_wp2_with fail
        refine (HF.out c _).mono ?_
        rintro e w' ⟨rfl, rfl⟩
        dsimp only
        go_wp2
        go_round
        case rel =>
          refine ⟨k + 1, by omega, by go_num, fun d hd => ?_⟩
          rw [HN.out] at hd
          rcases List.mem_append.1 hd with h | h
          · exact HAL.out d h
          · obtain rfl : d = c := by simpa using h
            exact hp
        case measure => simp [intOf]; omega
      · have hp' : p c = false := by simpa using hp
        have HR := Bx.mk (show s.all p = false by rw [List.all_eq_false]; exact ⟨c, HM.out, by rw [hp']; decide⟩)
        clear hp
        go_wp2_with fail
        refine (HF.out c _).mono ?_
        rintro e w' ⟨rfl, rfl⟩
        dsimp only
        go_wp2
        go_ret
        exact ⟨by rw [HR.out]; rfl, rfl⟩
    · obtain rfl : k = s.length := by omega
      rw [List.take_length] at *
      have HR := Bx.mk (show s.all p = true by rw [List.all_eq_true]; exact HAL.out)
      go_wp2
      go_ret
      exact ⟨by rw [HR.out]; rfl, rfl⟩
namespace RfP
def up (c : UInt8) : UInt8 := if 97 ≤ c.toNat ∧ c.toNat ≤ 122 then UInt8.ofNat (c.toNat - 32) else c
theorem up_lv (c : UInt8) (h : isLetter c = true) : 65 ≤ (up c).toNat ∧ (up c).toNat ≤ 90 ∧ (up c).toNat - 65 = lv c := by
  unfold isLetter at h
  simp only [Bool.or_eq_true, Bool.and_eq_true, decide_eq_true_eq, UInt8.le_iff_toNat_le] at h
  simp at h
  unfold up lv
  by_cases h2 : 97 ≤ c.toNat ∧ c.toNat ≤ 122
  · rw [if_pos h2, UInt8.toNat_ofNat', Nat.mod_eq_of_lt (by omega)]; omega
  · rw [if_neg h2]; omega
end RfP
set_option maxRecDepth 100000 in
theorem Upper_any (s : List UInt8) (w : World) (hs : s.length ≤ 1000000000) :
    Calls Tryz.prog 129 #[.string (bstr s)] w fun e w' => e = .returned (.string (bstr (s.map RfP.up))) ∧ Below w.heap.size w w' := by
  have hsz := bstr_size s
  go_enter Tryz.func129, Tryz.ntmps129
  go_wp2
  go_loopw [3, 8] (fun o i wr => ∃ k : Nat, k ≤ s.length ∧ i = .int .i64 (k : Int) ∧ o = .string (bstr ((s.take k).map RfP.up)) ∧ Below w.heap.size w wr) (fun _ i _ => s.length - (intOf i).toNat)
  case atStart => exact ⟨0, Nat.zero_le _, rfl, rfl, Below.refl _ _⟩
  case round =>
    obtain ⟨k, hk, rfl, rfl, hb⟩ := hrel
    have HB := Bx.mk hb; clear hb
    have hl : (bstr ((s.take k).map RfP.up)).size ≤ 1000000000 := by rw [bstr_size, List.length_map, List.length_take]; omega
    by_cases hlt : k < s.length
    · have HN := Bx.mk (take_next0 s k hlt)
      have hat := bstr_at s k (by rw [hsz]; exact hlt)
      generalize s.getD k 0 = c at *
      have hadd := bstr_app ((s.take k).map RfP.up) [RfP.up c]
      have H1 : (bstr [RfP.up c]).size = 1 := rfl
      have HE := Bx.mk (show (s.take k).map RfP.up ++ [RfP.up c] = (s.take (k + 1)).map RfP.up by rw [HN.out, List.map_append]; rfl)
      have hcv := fun W => conv1 (P := Tryz.prog) (src := 83) (dst := 9) Tryz.underlying83 Tryz.underlying5 Tryz.underlying9 W (RfP.up c).toNat (RfP.up c).toNat_lt
      simp only [UInt8.ofNat_toNat] at hcv
      generalize (s.take k).map RfP.up = o at *
      by_cases hr : 97 ≤ c.toNat ∧ c.toNat ≤ 122
      · have hu : (c.toNat : Int) - 32 = ((RfP.up c).toNat : Int) := by
          unfold RfP.up; rw [if_pos hr, UInt8.toNat_ofNat', Nat.mod_eq_of_lt (by omega)]; omega
        obtain ⟨hr1, hr2⟩ := hr
        go_wp2
        go_roundw
        case rel => exact ⟨k + 1, by omega, by go_num, by rw [HE.out], HB.out.alloc HB.out.size _⟩
        case measure => simp [intOf]; omega
      · have hu : (c.toNat : Int) = ((RfP.up c).toNat : Int) := by
          unfold RfP.up; rw [if_neg hr]
        have HU := Bx.mk hu; clear hu
        by_cases h97 : 97 ≤ c.toNat
        · have h122 : 122 < c.toNat := by omega
          go_upto_region 8 with fail
          rw [HU.out]
          go_wp2
          go_roundw
          case rel => exact ⟨k + 1, by omega, by go_num, by rw [HE.out], HB.out.alloc HB.out.size _⟩
          case measure => simp [intOf]; omega
        · go_upto_region 8 with fail
          rw [HU.out]
          go_wp2
          go_roundw
          case rel => exact ⟨k + 1, by omega, by go_num, by rw [HE.out], HB.out.alloc HB.out.size _⟩
          case measure => simp [intOf]; omega
    · obtain rfl : k = s.length := by omega
      rw [List.take_length] at *
      go_wp2
      go_ret
      exact ⟨rfl, HB.out⟩
theorem plainC_pred : PredC 93 RfP.plainC := fun c w => by
  have H := Bx.mk (show RfP.plainC c = (RfP.isLetter c || RfP.isDigit c || c == 95) from rfl)
  have H95 := Bx.mk (show (c == 95) = decide ((c.toNat : Int) = 95) by
    rw [Bool.eq_iff_iff]; simp
    constructor
    · intro e; rw [e]; rfl
    · intro e; exact UInt8.toNat_inj.1 (by rw [show (95 : UInt8).toNat = 95 from rfl]; omega))
  go_enter Tryz.func93, Tryz.ntmps93
  by_cases hL : RfP.isLetter c = true
  · go_wp2_with (first | (go_at_call 67; refine (rletter_any _ _).mono ?_; rintro e w' ⟨rfl, rfl⟩) | (go_at_call 69; refine (rdigit_any _ _).mono ?_; rintro e w' ⟨rfl, rfl⟩))
    go_ret
    exact ⟨ret_bool (by rw [H.out, hL]; rfl), rfl⟩
  · have hL' : RfP.isLetter c = false := by simpa using hL
    clear hL
    by_cases hD : RfP.isDigit c = true
    · go_wp2_with (first | (go_at_call 67; refine (rletter_any _ _).mono ?_; rintro e w' ⟨rfl, rfl⟩) | (go_at_call 69; refine (rdigit_any _ _).mono ?_; rintro e w' ⟨rfl, rfl⟩))
      go_ret
      exact ⟨ret_bool (by rw [H.out, hL', hD]; rfl), rfl⟩
    · have hD' : RfP.isDigit c = false := by simpa using hD
      clear hD
      go_wp2_with (first | (go_at_call 67; refine (rletter_any _ _).mono ?_; rintro e w' ⟨rfl, rfl⟩) | (go_at_call 69; refine (rdigit_any _ _).mono ?_; rintro e w' ⟨rfl, rfl⟩))
      go_ret
      exact ⟨ret_bool (by rw [H.out, hL', hD', H95.out]; rfl), rfl⟩
theorem ef_plain : ∀ args w, (callFunc 93 args).run Tryz.prog w = .ok (.enter 93 args) w := Go.Proofs.enters_of Tryz.func93 (by kernel_rfl) rfl
set_option maxRecDepth 100000 in
theorem RPlain_any (s : List UInt8) (w : World) (hs : s.length ≤ 9223372036854775807) : Calls Tryz.prog 40 #[.string (bstr s)] w fun e w' => e = .returned (.bool (RfP.plain s)) ∧ w = w' := by
  have H := Bx.mk (plain_eq s)
  have HP : Bx (PredC 93 RfP.plainC) := ⟨plainC_pred⟩
  have hsz := bstr_size s
  by_cases h0 : s = []
  · have he : (!(bstr s).toList.isEmpty) = false := by rw [bstr_emp, h0]; rfl
    have HR := Bx.mk (show RfP.plain s = false by rw [h0]; rfl)
    clear h0
    go_enter Tryz.func40, Tryz.ntmps40
    go_wp2
    go_ret
    exact ⟨ret_bool (by rw [HR.out]), rfl⟩
  · have he0 : s.isEmpty = false := by simpa using h0
    have he : (!(bstr s).toList.isEmpty) = true := by rw [bstr_emp, he0]; rfl
    have hpos : 0 < (bstr s).size := by rw [hsz]; exact List.length_pos_iff.2 h0
    have hat := bstr_at s 0 hpos
    clear h0
    rw [he0] at H
    by_cases hL : RfP.isLetter (s.getD 0 0) = true
    · rw [hL] at H
      generalize s.getD 0 0 = c at *
      go_enter Tryz.func40, Tryz.ntmps40
      go_wp2_with (first | (go_at_call 67; refine (rletter_any _ _).mono ?_; rintro e w' ⟨rfl, rfl⟩) | (go_at_call 59; refine (All_any _ _ HP ef_plain _ _ hs).mono ?_; rintro e w' ⟨rfl, rfl⟩))
      go_ret
      exact ⟨ret_bool (by rw [H.out]; rfl), rfl⟩
    · have hL' : RfP.isLetter (s.getD 0 0) = false := by simpa using hL
      clear hL
      rw [hL'] at H
      generalize s.getD 0 0 = c at *
      go_enter Tryz.func40, Tryz.ntmps40
      go_wp2_with (first | (go_at_call 67; refine (rletter_any _ _).mono ?_; rintro e w' ⟨rfl, rfl⟩))
      go_ret
      exact ⟨ret_bool (by rw [H.out]; rfl), rfl⟩
end Go.Proofs.YtmodjglbjempkaaGreatDoor
namespace Go.Proofs.YtmodjglbjempkaaGreatDoor
open Go.RowKit
theorem u8info : (Tryz.prog.info? 5).map (fun i => (i.zero, i.size, i.bytes)) = some (some (.int .u8 0), 1, 1) := by kernel_rfl
theorem made1 (n : Nat) (z : Value) : (madeCells #[z] n).toList = List.replicate n z := by
  apply List.ext_getElem
  · simp [madeCells]
  · intro i h1 h2
    simp [madeCells, Nat.mod_one]
theorem Row.of_full {w : World} {base g n : Nat} {e : TypeId} {xs : List Value} (h : w.ownsRow base e 1 (.slice (some ⟨g, 0, none⟩) n n) n xs) : Row w g e xs.toArray := by
  rcases h.2 with ⟨h1, _⟩ | ⟨g', cap, cur, h1, _, hg, _, _, hs, ht⟩
  · cases h1
  · injection h1 with h1 h2 h3
    injection h1 with h1
    injection h1 with h1
    subst h1; subst h3
    have : cur = xs.toArray := by
      rw [← ht, List.take_of_length_le (by simp [hs])]
    rw [← this]; exact hg
/-- the reference's letters: k of them written, from the right -/
def ltrRow (n k c : Nat) : Array Value := (List.replicate (n - k) (Value.int .u8 0) ++ bvals (RfP.dig26 k c)).toArray
theorem ltrRow_zero (n c : Nat) : ltrRow n 0 c = (List.replicate n (Value.int .u8 0)).toArray := by unfold ltrRow; simp [RfP.dig26, bvals]
theorem ltrRow_end (n c : Nat) : ltrRow n n c = (bvals (RfP.dig26 n c)).toArray := by unfold ltrRow; simp
theorem ltrRow_set (n k c : Nat) (hk : k < n) : (ltrRow n k c).setIfInBounds (n - 1 - k) (.int .u8 ((65 + c / 26 ^ k % 26 : Nat) : Int)) = ltrRow n (k + 1) c := by
  have hm : c / 26 ^ k % 26 < 26 := Nat.mod_lt _ (by omega)
  unfold ltrRow
  rw [RfP.dig26_cons]
  obtain ⟨d, hd⟩ : ∃ d, n - k = d + 1 := ⟨n - k - 1, by omega⟩
  rw [hd, show n - 1 - k = d by omega, show n - (k + 1) = d by omega, List.replicate_succ', List.append_assoc]
  apply Array.toList_inj.1
  simp only [Array.toList_setIfInBounds]
  rw [List.set_append_right _ _ (by simp)]
  simp [bvals]
  omega
theorem ltrRow_get (n k c : Nat) (hk : k < n) : (ltrRow n k c)[n - 1 - k]? = some (.int .u8 0) := by
  unfold ltrRow
  obtain ⟨d, hd⟩ : ∃ d, n - k = d + 1 := ⟨n - k - 1, by omega⟩
  rw [hd, show n - 1 - k = d by omega]
  simp [List.getElem?_append, List.getElem?_replicate]
set_option maxRecDepth 100000 in
set_option maxHeartbeats 1000000 in
theorem RLetters_any (c : Nat) (w : World) (hc : c < 1073741824) : Calls Tryz.prog 104 #[.int .i64 (c : Int)] w fun e w' => e = .returned (.string (bstr (RfP.ltr 8 (c + 1)))) ∧ Below w.heap.size w w' := by
  obtain ⟨i0, hi, hz0, hz1, hz2⟩ := info_parts u8info
  go_enter Tryz.func104, Tryz.ntmps104
  go_wp2
  go_loop [0, 3, 4] (fun cv nv sv => ∃ (d n P : Nat), P = 26 ^ n ∧ cv = .int .i64 (d : Int) ∧ nv = .int .i64 (n : Int) ∧ sv = .int .i64 (P : Int) ∧ d + RfP.S26 n = c + 1 ∧ 1 ≤ n ∧ n ≤ 7 ∧ 26 ≤ P) (fun cv _ _ => (intOf cv).toNat)
  case atStart => exact ⟨c, 1, 26, rfl, rfl, rfl, rfl, rfl, by omega, by omega, by omega⟩
  case round =>
    obtain ⟨d, n, P, hP, rfl, rfl, rfl, hS, h1, h7, h26⟩ := hrel
    have HP := Bx.mk hP; clear hP
    have HS := Bx.mk hS; clear hS
    have hdc : d ≤ c := by
      have := HS.out
      obtain ⟨m, rfl⟩ : ∃ m, n = m + 1 := ⟨n - 1, by omega⟩
      have e : RfP.S26 (m + 1) = 26 * RfP.S26 m + 1 := rfl
      omega
    have hPle : P ≤ 8031810176 := by
      rw [HP.out]; exact Nat.pow_le_pow_right (n := 26) (by omega) h7
    by_cases hlt : P ≤ d
    · have hn6 : n ≤ 6 := by
        rcases Nat.lt_or_ge n 7 with h | h
        · omega
        · have : n = 7 := by omega
          have := HP.out
          subst n
          omega
      go_wp2
      go_round
      case rel =>
        refine ⟨d - P, n + 1, 26 * P, by rw [HP.out, Nat.pow_succ, Nat.mul_comm], by go_num, by go_num, by go_num, ?_, by omega, by omega, by omega⟩
        rw [RfP.S26_succ, ← HP.out]; have := HS.out; omega
      case measure => simp [intOf]; omega
    · have HR := Bx.mk (show RfP.ltr 8 (c + 1) = RfP.dig26 n d by rw [← HS.out]; exact RfP.ltr_dig n 8 d (by omega) (by rw [← HP.out]; omega))
      clear HP HS hPle h26
      go_wp2_with (refine wpList_make_full _ rfl _ _ _ rfl w.heap.size 5 i0 (.int .u8 0) 1 Tryz.underlying83 hi hz0 hz1 .i64 .i64 (n : Int) (n : Int) n rfl rfl rfl rfl ?c2 ?c3 ?c4 ?_)
      case c2 => omega
      case c3 => unfold maxLen; omega
      intro w1 hown hg
      have HR1 : Bx (Row w1 w.heap.size 5 (ltrRow n 0 d)) := ⟨by
        have := Row.of_full hown
        rw [made1] at this
        rw [ltrRow_zero]; exact this⟩
      have HB : Bx (Below w.heap.size w w1) := ⟨(Below.refl _ _).grown hg (Nat.le_refl _) (fun k hk => by cases hk)⟩
      clear hown hg
      go_wp2
      go_loopw [0, 6] (fun cv iv wx => ∃ (k q : Nat), k ≤ n ∧ iv = .int .i64 ((n : Int) - 1 - (k : Int)) ∧ q = d / 26 ^ k ∧ q ≤ d ∧ cv = .int .i64 (q : Int) ∧ Row wx w.heap.size 5 (ltrRow n k d) ∧ Below w.heap.size w wx) (fun _ iv _ => (intOf iv + 1).toNat)
      case atStart => exact ⟨0, d, by omega, by go_num, by simp, Nat.le_refl _, rfl, HR1.out, HB.out⟩
      case round =>
        clear HR1 HB
        obtain ⟨k, q, hk, rfl, hq, hqd, rfl, hr, hb⟩ := hrel
        have HQ := Bx.mk hq; clear hq
        have HRW := Bx.mk hr; clear hr
        have HB := Bx.mk hb; clear hb
        by_cases hkn : k < n
        · have HNX := Bx.mk (ltrRow_set n k d hkn)
          obtain ⟨ix, hix⟩ : ∃ ix : Nat, (n : Int) - 1 - (k : Int) = (ix : Int) := ⟨n - 1 - k, by omega⟩
          have hixn : ix < n := by omega
          have HIX := Bx.mk (show n - 1 - k = ix by omega)
          have hc0 := HRW.out.cell ix
          rw [← HIX.out, ltrRow_get n k d hkn, HIX.out] at hc0
          have hf0 := HRW.out.frozen ix
          obtain ⟨m, hm⟩ : ∃ m : Nat, (q : Int) % 26 = (m : Int) := ⟨q % 26, by omega⟩
          obtain ⟨q2, hq2⟩ : ∃ q2 : Nat, (q : Int) / 26 = (q2 : Int) := ⟨q / 26, by omega⟩
          have HM := Bx.mk (show m = q % 26 by omega)
          have hm26 : m < 26 := by omega
          have hge : decide ((0 : Int) ≤ (ix : Int)) = true := by simp
          rw [hix]
          go_wp2
          go_roundw
          case rel =>
            refine ⟨k + 1, q2, by omega, by go_num, ?_, by omega, rfl, ?_, HB.out.setCell (Nat.le_refl _) _⟩
            · rw [Nat.pow_succ, ← Nat.div_div_eq_div_mul, ← HQ.out]; omega
            · have h := HRW.out.set ix (.int .u8 ((65 + d / 26 ^ k % 26 : Nat) : Int))
              rw [← HIX.out, HNX.out, HIX.out, ← HQ.out, ← HM.out] at h
              simpa using h
          case measure => simp [intOf] <;> omega
        · obtain rfl : k = n := by omega
          have hlt0 : decide ((0 : Int) ≤ (k : Int) - 1 - (k : Int)) = false := by simp; omega
          have hcv : (convert 83 9 (.slice (some ⟨w.heap.size, 0, none⟩) k k)).run Tryz.prog wr = .ok (.string (bstr (RfP.dig26 k d))) wr := by
            have e := RfP.dig26_len k d
            have := run_convert_bytes_back (P := Tryz.prog) wr 83 9 5 ⟨w.heap.size, 0, none⟩ k (RfP.dig26 k d) Tryz.underlying83 Tryz.underlying5 Tryz.underlying9 (fun j hj => by
              have h := HRW.out.cell j
              rw [ltrRow_end] at h
              have ha : (⟨w.heap.size, 0, none⟩ : Addr).add j = ⟨w.heap.size, j, none⟩ := by unfold Addr.add; split <;> simp_all
              rw [ha, h]; simp [bvals, hj])
            rwa [e] at this
          go_wp2
          go_ret
          exact ⟨ret_str HR.out.symm, HB.out⟩
theorem low_step (s : List UInt8) (k : Nat) (hk : k < s.length) : RfP.lowS (s.drop (s.length - (k + 1))) = 26 ^ k * RfP.lv (s.getD (s.length - 1 - k) 0) + RfP.lowS (s.drop (s.length - k)) := by
  have h : s.length - (k + 1) < s.length := by omega
  rw [List.drop_eq_getElem_cons h, show s.length - (k + 1) + 1 = s.length - k by omega]
  simp only [RfP.lowS]
  rw [List.length_drop, show s.length - (s.length - k) = k by omega, List.getD_eq_getElem?_getD, show s.length - 1 - k = s.length - (k + 1) by omega, List.getElem?_eq_getElem h]
  rfl
theorem lv_bd (c : UInt8) : RfP.lv c ≤ 31 := by unfold RfP.lv; have : c.toNat % 32 < 32 := Nat.mod_lt _ (by omega); omega
theorem ext_one (s : List UInt8) (i : Nat) (h : i < s.length) : (bstr s).extract i (i + 1) = bstr [s.getD i 0] := by
  rw [bstr_ext, take_next0 s i h, List.drop_append]
  simp [List.length_take, Nat.min_eq_left (Nat.le_of_lt h)]
theorem pow26_le (k m : Nat) (h : k ≤ m) : 26 ^ k ≤ 26 ^ m := Nat.pow_le_pow_right (by omega) h
theorem sumP_bd (k : Nat) (h : k ≤ 7) : RfP.sumP k ≤ 8353082582 := by
  have h7 : ∀ j, j < 8 → RfP.sumP j ≤ 8353082582 := by decide
  exact h7 k (by omega)
set_option maxRecDepth 100000 in
set_option maxHeartbeats 1000000 in
theorem RColumn_any (s : List UInt8) (w : World) (h0 : s ≠ []) (h7 : s.length ≤ 7) (hL : RfP.allL s = true) : Calls Tryz.prog 97 #[.string (bstr s)] w fun e w' => e = .returned (.int .i64 ((RfP.val26 s : Int) - 1)) ∧ Below w.heap.size w w' := by
  have hal : ∀ c ∈ s, RfP.isLetter c = true := by unfold RfP.allL at hL; rw [List.all_eq_true] at hL; exact hL
  have hpos : 0 < s.length := List.length_pos_iff.2 h0
  have HV := Bx.mk (RfP.val26_ref s h0 hal)
  have HAL := Bx.mk hal; clear hal
  clear h0 hL
  have hsz := bstr_size s
  go_enter Tryz.func97, Tryz.ntmps97
  go_wp2
  go_loopw [3, 4, 5] (fun nv sv iv wr => ∃ (k P n : Nat), k ≤ s.length ∧ P = 26 ^ k ∧ n = RfP.lowS (s.drop (s.length - k)) ∧ n ≤ 31 * 26 ^ 6 * k ∧ nv = .int .i64 (n : Int) ∧ sv = .int .i64 (P : Int) ∧ iv = .int .i64 ((s.length : Int) - 1 - (k : Int)) ∧ Below w.heap.size w wr) (fun _ _ iv _ => (intOf iv + 1).toNat)
  case atStart => exact ⟨0, 1, 0, by omega, rfl, by simp [RfP.lowS], by omega, rfl, rfl, by go_num, Below.refl _ _⟩
  case round =>
    obtain ⟨k, P, n, hk, hP, hn, hnb, rfl, rfl, rfl, hb⟩ := hrel
    have HP := Bx.mk hP; clear hP
    have HN := Bx.mk hn; clear hn
    have HB := Bx.mk hb; clear hb
    by_cases hkn : k < s.length
    · have HS := Bx.mk (low_step s k hkn)
      obtain ⟨ix, hix⟩ : ∃ ix : Nat, (s.length : Int) - 1 - (k : Int) = (ix : Int) := ⟨s.length - 1 - k, by omega⟩
      have HIX := Bx.mk (show s.length - 1 - k = ix by omega)
      have hixn : ix < s.length := by omega
      rw [HIX.out] at HS
      have hext := ext_one s ix hixn
      have hlet := HAL.out _ (mem_getD s ix hixn)
      generalize s.getD ix 0 = c at *
      obtain ⟨hu1, hu2, hu3⟩ := RfP.up_lv c hlet
      clear hlet
      have hvb := lv_bd c
      have hP6 : P ≤ 26 ^ 6 := by rw [HP.out]; exact pow26_le k 6 (by omega)
      have HPV : Bx (P * RfP.lv c ≤ 26 ^ 6 * 31) := ⟨Nat.mul_le_mul hP6 hvb⟩
      have hsub : ((RfP.up c).toNat : Int) - 65 = (RfP.lv c : Int) := by omega
      rw [← HP.out] at HS
      generalize RfP.lv c = v at *
      obtain ⟨pv, hpv⟩ : ∃ pv : Nat, (P : Int) * (v : Int) = (pv : Int) := ⟨P * v, by simp⟩
      have HPV2 := Bx.mk (show P * v = pv by exact_mod_cast hpv)
      have hpvb : pv ≤ 26 ^ 6 * 31 := by rw [← HPV2.out]; exact HPV.out
      have hge : decide ((0 : Int) ≤ (ix : Int)) = true := by simp
      have hat := bstr_at [RfP.up c] 0 (by rw [bstr_size]; simp)
      have hus : (0 : Nat) < (bstr [RfP.up c]).size := by rw [bstr_size]; simp
      rw [show [RfP.up c].getD 0 0 = RfP.up c from rfl] at hat
      clear hu3
      have hsl : ∀ wx : World, (Instr.slice 9 (.string (bstr s)) (some (.int .i64 (ix : Int))) (some (.int .i64 ((ix : Int) + 1))) none).run Tryz.prog wx = .ok (.string (bstr [c])) wx := fun wx => by
        rw [← hext]; exact run_slice_string wx 9 (bstr s) .i64 .i64 (ix : Int) ((ix : Int) + 1) Tryz.underlying9 (by omega) (by omega) (by rw [hsz]; omega)
      clear hext
      rw [hix]
      go_wp2_with (first | (go_at_call 129; refine (Upper_any [c] _ (by simp)).mono ?_; rw [show [c].map RfP.up = [RfP.up c] from rfl]; rintro e w1 ⟨rfl, hb1⟩))
      go_roundw
      case rel =>
        refine ⟨k + 1, 26 * P, n + pv, by omega, by rw [HP.out, Nat.pow_succ, Nat.mul_comm], by rw [HS.out, HN.out, HPV2.out]; omega, by omega, by go_num, by go_num, by go_num, HB.out.trans (hb1.mono HB.out.size)⟩
      case measure => simp [intOf] <;> omega
    · obtain rfl : k = s.length := by omega
      have hlt0 : decide ((0 : Int) ≤ (s.length : Int) - 1 - (s.length : Int)) = false := by simp; omega
      rw [show s.length - s.length = 0 by omega, List.drop_zero] at HN
      go_wp2
      go_loop [0, 3, 4] (fun sv nv pv => ∃ (j m P : Nat), j < s.length ∧ P = 26 ^ (j + 1) ∧ m = n + RfP.sumP j ∧ sv = .string (bstr (s.drop j)) ∧ nv = .int .i64 (m : Int) ∧ pv = .int .i64 (P : Int)) (fun sv _ _ => match sv with | .string x => x.size | _ => 0)
      case atStart => exact ⟨0, n, 26, hpos, rfl, rfl, rfl, rfl, rfl⟩
      case round =>
        obtain ⟨j, m, P, hj, hP, hm, rfl, rfl, rfl⟩ := hrel
        have HP := Bx.mk hP; clear hP
        have HM := Bx.mk hm; clear hm
        have hPb : P ≤ 26 ^ 7 := by rw [HP.out]; exact pow26_le _ 7 (by omega)
        have hsb := sumP_bd j (by omega)
        have hmb : m ≤ 200000000000 := by rw [HM.out]; omega
        clear hsb
        have hdl : (bstr (s.drop j)).size = s.length - j := by rw [bstr_size, List.length_drop]
        by_cases hj1 : j + 1 < s.length
        · have hd1 : decide ((1 : Int) < ((s.length - j : Nat) : Int)) = true := by simp; omega
          have hsl : ∀ wx : World, (Instr.slice 9 (.string (bstr (s.drop j))) (some (.int .i64 1)) none none).run Tryz.prog wx = .ok (.string (bstr (s.drop (j + 1)))) wx := fun wx => by
            rw [slice_l Tryz.underlying9 (s.drop j) 1 1 rfl (by rw [List.length_drop]; omega) wx, List.drop_drop]
          have hd2 : (bstr (s.drop (j + 1))).size = s.length - (j + 1) := by rw [bstr_size, List.length_drop]
          generalize hX : bstr (s.drop j) = X at *
          clear hX
          go_wp2
          go_round
          case rel => exact ⟨j + 1, m + P, 26 * P, hj1, by rw [HP.out, Nat.pow_succ 26 (j + 1), Nat.mul_comm], by rw [HM.out, HP.out]; simp only [RfP.sumP]; omega, rfl, by go_num, by go_num⟩
          case measure => show (bstr (s.drop (j + 1))).size < X.size; omega
        · have hd1 : decide ((1 : Int) < ((s.length - j : Nat) : Int)) = false := by simp; omega
          obtain rfl : j = s.length - 1 := by omega
          generalize hX : bstr (s.drop (s.length - 1)) = X at *
          clear hX
          have hmv : m = RfP.val26 s - 1 := by rw [HM.out, HN.out, HV.out]; omega
          have hvp : 1 ≤ RfP.val26 s := by rw [HV.out]; omega
          go_wp2
          go_ret
          exact ⟨ret_int (by omega), HB.out⟩
end Go.Proofs.YtmodjglbjempkaaGreatDoor
