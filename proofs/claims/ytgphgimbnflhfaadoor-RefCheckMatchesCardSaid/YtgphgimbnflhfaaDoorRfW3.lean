/- References: the walks of the reference's All, Upper and Plain. -/
import Derived.Test.YtgphgimbnflhfaaDoorRfW2
set_option linter.unusedSimpArgs false
set_option linter.unusedVariables false
namespace Go.Proofs.YtgphgimbnflhfaaDoor
open Go.RowKit
def PredC (f : FuncId) (p : UInt8 → Bool) : Prop := ∀ (c : UInt8) (w : World), Calls Tryd.prog f #[.int .u8 (c.toNat : Int)] w fun e w' => e = .returned (.bool (p c)) ∧ w = w'
set_option maxRecDepth 100000 in
theorem All_any (f : FuncId) (p : UInt8 → Bool) (HF : Bx (PredC f p)) (ef : ∀ args w, (callFunc f args).run Tryd.prog w = .ok (.enter f args) w) (s : List UInt8) (w : World) (hs : s.length ≤ 9223372036854775807) :
    Calls Tryd.prog 12 #[.string (bstr s), .func (Fn.func f) #[] #[]] w fun e w' => e = .returned (.bool (s.all p)) ∧ w = w' := by
  have hsz := bstr_size s
  go_enter Tryd.func12, Tryd.ntmps12
  go_wp2
  go_loop [8] (fun i => ∃ k : Nat, k ≤ s.length ∧ i = .int .i64 (k : Int) ∧ ∀ c ∈ s.take k, p c = true) (fun i => s.length - (intOf i).toNat)
  case atStart => exact ⟨0, Nat.zero_le _, rfl, by simp⟩
  case round =>
    obtain ⟨k, hk, rfl, hal⟩ := hrel
    have HAL := Bx.mk hal; clear hal
    by_cases hlt : k < s.length
    · have HN := Bx.mk (take_next0 s k hlt)
      have hat := bstr_at s k (by rw [hsz]; exact hlt)
      have HM := Bx.mk (mem_getD s k hlt)
      generalize s.getD k 0 = c at *
      by_cases hp : p c = true
      · go_wp2_with fail
        refine (HF.out c _).mono ?_
        rintro e w' ⟨rfl, rfl⟩
        dsimp only
        go_wp2
        go_round
        case rel =>
          refine ⟨k + 1, by omega, by go_num, fun d hd => ?_⟩
          rw [HN.out] at hd
          rcases List.mem_append.1 hd with h | h
          · exact HAL.out d h
          · obtain rfl : d = c := by simpa using h
            exact hp
        case measure => simp [intOf]; omega
      · have hp' : p c = false := by simpa using hp
        have HR := Bx.mk (show s.all p = false by rw [List.all_eq_false]; exact ⟨c, HM.out, by rw [hp']; decide⟩)
        clear hp
        go_wp2_with fail
        refine (HF.out c _).mono ?_
        rintro e w' ⟨rfl, rfl⟩
        dsimp only
        go_wp2
        go_ret
        exact ⟨by rw [HR.out]; rfl, rfl⟩
    · obtain rfl : k = s.length := by omega
      rw [List.take_length] at *
      have HR := Bx.mk (show s.all p = true by rw [List.all_eq_true]; exact HAL.out)
      go_wp2
      go_ret
      exact ⟨by rw [HR.out]; rfl, rfl⟩
namespace RfP
def up (c : UInt8) : UInt8 := if 97 ≤ c.toNat ∧ c.toNat ≤ 122 then UInt8.ofNat (c.toNat - 32) else c
theorem up_lv (c : UInt8) (h : isLetter c = true) : 65 ≤ (up c).toNat ∧ (up c).toNat ≤ 90 ∧ (up c).toNat - 65 = lv c := by
  unfold isLetter at h
  simp only [Bool.or_eq_true, Bool.and_eq_true, decide_eq_true_eq, UInt8.le_iff_toNat_le] at h
  simp at h
  unfold up lv
  by_cases h2 : 97 ≤ c.toNat ∧ c.toNat ≤ 122
  · rw [if_pos h2, UInt8.toNat_ofNat', Nat.mod_eq_of_lt (by omega)]; omega
  · rw [if_neg h2]; omega
end RfP
set_option maxRecDepth 100000 in
theorem Upper_any (s : List UInt8) (w : World) (hs : s.length ≤ 1000000000) :
    Calls Tryd.prog 35 #[.string (bstr s)] w fun e w' => e = .returned (.string (bstr (s.map RfP.up))) ∧ Below w.heap.size w w' := by
  have hsz := bstr_size s
  go_enter Tryd.func35, Tryd.ntmps35
  go_wp2
  go_loopw [3, 8] (fun o i wr => ∃ k : Nat, k ≤ s.length ∧ i = .int .i64 (k : Int) ∧ o = .string (bstr ((s.take k).map RfP.up)) ∧ Below w.heap.size w wr) (fun _ i _ => s.length - (intOf i).toNat)
  case atStart => exact ⟨0, Nat.zero_le _, rfl, rfl, Below.refl _ _⟩
  case round =>
    obtain ⟨k, hk, rfl, rfl, hb⟩ := hrel
    have HB := Bx.mk hb; clear hb
    have hl : (bstr ((s.take k).map RfP.up)).size ≤ 1000000000 := by rw [bstr_size, List.length_map, List.length_take]; omega
    by_cases hlt : k < s.length
    · have HN := Bx.mk (take_next0 s k hlt)
      have hat := bstr_at s k (by rw [hsz]; exact hlt)
      generalize s.getD k 0 = c at *
      have hadd := bstr_app ((s.take k).map RfP.up) [RfP.up c]
      have H1 : (bstr [RfP.up c]).size = 1 := rfl
      have HE := Bx.mk (show (s.take k).map RfP.up ++ [RfP.up c] = (s.take (k + 1)).map RfP.up by rw [HN.out, List.map_append]; rfl)
      have hcv := fun W => conv1 (P := Tryd.prog) (src := 56) (dst := 9) Tryd.underlying56 Tryd.underlying5 Tryd.underlying9 W (RfP.up c).toNat (RfP.up c).toNat_lt
      simp only [UInt8.ofNat_toNat] at hcv
      generalize (s.take k).map RfP.up = o at *
      by_cases hr : 97 ≤ c.toNat ∧ c.toNat ≤ 122
      · have hu : (c.toNat : Int) - 32 = ((RfP.up c).toNat : Int) := by
          unfold RfP.up; rw [if_pos hr, UInt8.toNat_ofNat', Nat.mod_eq_of_lt (by omega)]; omega
        obtain ⟨hr1, hr2⟩ := hr
        go_wp2
        go_roundw
        case rel => exact ⟨k + 1, by omega, by go_num, by rw [HE.out], HB.out.alloc HB.out.size _⟩
        case measure => simp [intOf]; omega
      · have hu : (c.toNat : Int) = ((RfP.up c).toNat : Int) := by
          unfold RfP.up; rw [if_neg hr]
        have HU := Bx.mk hu; clear hu
        by_cases h97 : 97 ≤ c.toNat
        · have h122 : 122 < c.toNat := by omega
          go_upto_region 8 with fail
          rw [HU.out]
          go_wp2
          go_roundw
          case rel => exact ⟨k + 1, by omega, by go_num, by rw [HE.out], HB.out.alloc HB.out.size _⟩
          case measure => simp [intOf]; omega
        · go_upto_region 8 with fail
          rw [HU.out]
          go_wp2
          go_roundw
          case rel => exact ⟨k + 1, by omega, by go_num, by rw [HE.out], HB.out.alloc HB.out.size _⟩
          case measure => simp [intOf]; omega
    · obtain rfl : k = s.length := by omega
      rw [List.take_length] at *
      go_wp2
      go_ret
      exact ⟨rfl, HB.out⟩
theorem plainC_pred : PredC 37 RfP.plainC := fun c w => by
  have H := Bx.mk (show RfP.plainC c = (RfP.isLetter c || RfP.isDigit c || c == 95) from rfl)
  have H95 := Bx.mk (show (c == 95) = decide ((c.toNat : Int) = 95) by
    rw [Bool.eq_iff_iff]; simp
    constructor
    · intro e; rw [e]; rfl
    · intro e; exact UInt8.toNat_inj.1 (by rw [show (95 : UInt8).toNat = 95 from rfl]; omega))
  go_enter Tryd.func37, Tryd.ntmps37
  by_cases hL : RfP.isLetter c = true
  · go_wp2_with (first | (go_at_call 13; refine (rletter_any _ _).mono ?_; rintro e w' ⟨rfl, rfl⟩) | (go_at_call 38; refine (rdigit_any _ _).mono ?_; rintro e w' ⟨rfl, rfl⟩))
    go_ret
    exact ⟨ret_bool (by rw [H.out, hL]; rfl), rfl⟩
  · have hL' : RfP.isLetter c = false := by simpa using hL
    clear hL
    by_cases hD : RfP.isDigit c = true
    · go_wp2_with (first | (go_at_call 13; refine (rletter_any _ _).mono ?_; rintro e w' ⟨rfl, rfl⟩) | (go_at_call 38; refine (rdigit_any _ _).mono ?_; rintro e w' ⟨rfl, rfl⟩))
      go_ret
      exact ⟨ret_bool (by rw [H.out, hL', hD]; rfl), rfl⟩
    · have hD' : RfP.isDigit c = false := by simpa using hD
      clear hD
      go_wp2_with (first | (go_at_call 13; refine (rletter_any _ _).mono ?_; rintro e w' ⟨rfl, rfl⟩) | (go_at_call 38; refine (rdigit_any _ _).mono ?_; rintro e w' ⟨rfl, rfl⟩))
      go_ret
      exact ⟨ret_bool (by rw [H.out, hL', hD', H95.out]; rfl), rfl⟩
theorem ef_plain : ∀ args w, (callFunc 37 args).run Tryd.prog w = .ok (.enter 37 args) w := Go.Proofs.enters_of Tryd.func37 (by kernel_rfl) rfl
set_option maxRecDepth 100000 in
theorem RPlain_any (s : List UInt8) (w : World) (hs : s.length ≤ 9223372036854775807) : Calls Tryd.prog 16 #[.string (bstr s)] w fun e w' => e = .returned (.bool (RfP.plain s)) ∧ w = w' := by
  have H := Bx.mk (plain_eq s)
  have HP : Bx (PredC 37 RfP.plainC) := ⟨plainC_pred⟩
  have hsz := bstr_size s
  by_cases h0 : s = []
  · have he : (!(bstr s).toList.isEmpty) = false := by rw [bstr_emp, h0]; rfl
    have HR := Bx.mk (show RfP.plain s = false by rw [h0]; rfl)
    clear h0
    go_enter Tryd.func16, Tryd.ntmps16
    go_wp2
    go_ret
    exact ⟨ret_bool (by rw [HR.out]), rfl⟩
  · have he0 : s.isEmpty = false := by simpa using h0
    have he : (!(bstr s).toList.isEmpty) = true := by rw [bstr_emp, he0]; rfl
    have hpos : 0 < (bstr s).size := by rw [hsz]; exact List.length_pos_iff.2 h0
    have hat := bstr_at s 0 hpos
    clear h0
    rw [he0] at H
    by_cases hL : RfP.isLetter (s.getD 0 0) = true
    · rw [hL] at H
      generalize s.getD 0 0 = c at *
      go_enter Tryd.func16, Tryd.ntmps16
      go_wp2_with (first | (go_at_call 13; refine (rletter_any _ _).mono ?_; rintro e w' ⟨rfl, rfl⟩) | (go_at_call 12; refine (All_any _ _ HP ef_plain _ _ hs).mono ?_; rintro e w' ⟨rfl, rfl⟩))
      go_ret
      exact ⟨ret_bool (by rw [H.out]; rfl), rfl⟩
    · have hL' : RfP.isLetter (s.getD 0 0) = false := by simpa using hL
      clear hL
      rw [hL'] at H
      generalize s.getD 0 0 = c at *
      go_enter Tryd.func16, Tryd.ntmps16
      go_wp2_with (first | (go_at_call 13; refine (rletter_any _ _).mono ?_; rintro e w' ⟨rfl, rfl⟩))
      go_ret
      exact ⟨ret_bool (by rw [H.out]; rfl), rfl⟩
end Go.Proofs.YtgphgimbnflhfaaDoor
