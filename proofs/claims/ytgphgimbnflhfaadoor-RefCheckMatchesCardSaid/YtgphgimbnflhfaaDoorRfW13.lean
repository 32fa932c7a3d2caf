/- References: Parse, and the statements' own function refs. -/
import Derived.Test.YtgphgimbnflhfaaDoorRfW11
set_option linter.unusedSimpArgs false
set_option linter.unusedVariables false
namespace Go.Proofs.YtgphgimbnflhfaaDoor
open Go.RowKit
theorem below_next {w a b : World} (h : Below w.heap.size w a) (k : Below a.heap.size a b) : Below w.heap.size w b := h.trans (k.mono h.size)
theorem Parse_any (s : List UInt8) (w : World) : Calls Tryd.prog 17 #[.string (bstr s)] w fun e w' => e = .returned (.tuple #[.agg (refC (RfP.parseP s).1), .int .i64 (RfP.parseP s).2]) ∧ Below w.heap.size w w' := by
  by_cases h : 500 < s.length
  · exact Parse_long s w h
  · by_cases h2 : s = RfP.refTxt
    · exact Parse_bad s w h2
    · exact Parse_rest s w (by omega) h2
def ref0 : RfP.Ref := ⟨[], 1, 1, 0, 4, 1, false, true, false, false⟩
theorem parse_lit : RfP.parseP [98, 53, 58, 36, 65, 50] = (ref0, 0) := by kernel_rfl
theorem refs_any (w : World) : Calls Tryd.prog 8 #[] w fun e w' => e = .returned (.bool true) ∧ Below w.heap.size w w' := by
  have hl : ∀ w, Calls Tryd.prog 9 #[.int .i64 701] w fun e w' => e = .returned (.tuple #[.string { data := #[90, 90] }, .int .i64 0]) ∧ Below w.heap.size w w' := fun w => by
    have := Letters_ok 701 w (by omega)
    rw [show RfP.ltr 8 (701 + 1) = [90, 90] from by decide] at this
    exact this
  have hp : ∀ w, Calls Tryd.prog 17 #[.string { data := #[98, 53, 58, 36, 65, 50] }] w fun e w' => e = .returned (.tuple #[.agg #[.string { data := #[] }, .int .i64 1, .int .i64 1, .int .i64 0, .int .i64 4, .int .i64 1, .bool false, .bool true, .bool false, .bool false], .int .i64 0]) ∧ Below w.heap.size w w' := fun w => by
    have := Parse_any [98, 53, 58, 36, 65, 50] w
    rw [parse_lit] at this
    exact this
  have he : ∀ w, (Op.equalIn 10000 35 (.agg #[.string { data := #[] }, .int .i64 1, .int .i64 1, .int .i64 0, .int .i64 4, .int .i64 1, .bool false, .bool true, .bool false, .bool false]) (.agg #[.string { data := #[] }, .int .i64 1, .int .i64 1, .int .i64 0, .int .i64 4, .int .i64 1, .bool false, .bool true, .bool false, .bool false])).run Tryd.prog w = .ok true w := fun w => by
    have := ref_eq ref0 ref0 w
    rw [RfP.eqR_self] at this
    exact this
  have HL := Bx.mk hl; clear hl
  have HP := Bx.mk hp; clear hp
  go_enter Tryd.func8, Tryd.ntmps8
  go_wp2_with (first | (go_at_call 9; refine (HL.out _).mono ?_; rintro e w1 ⟨rfl, hb1⟩) | (go_at_call 17; refine (HP.out _).mono ?_; rintro e w2 ⟨rfl, hb2⟩))
  go_ret
  exact ⟨rfl, (hb1.trans (hb2.mono hb1.size)).alloc (by have := hb1.size; have := hb2.size; omega) _⟩
theorem letter_pred : PredC 13 RfP.isLetter := fun c w => rletter_any c w
theorem ef_letter : ∀ args w, (callFunc 13 args).run Tryd.prog w = .ok (.enter 13 args) w := Go.Proofs.enters_of Tryd.func13 (by kernel_rfl) rfl
/-- what Letters returns -/
structure LettersSay (col : Int) (t : List UInt8) (x : Int) : Prop where
  yes : perm col = true → t = RfP.ltr 8 (col.toNat + 1) ∧ x = 0
  no : perm col = false → t = [] ∧ x = 2
theorem Letters_any (col : Int) (w : World) : Calls Tryd.prog 9 #[.int .i64 col] w fun e w' => ∃ t x, Bx (LettersSay col t x) ∧ e = .returned (.tuple #[.string (bstr t), .int .i64 x]) ∧ Below w.heap.size w w' := by
  cases h : perm col with
  | false =>
    refine (Letters_no col w h).mono ?_
    rintro e w' ⟨rfl, rfl⟩
    exact ⟨[], 2, Bx.mk (LettersSay.mk (fun h2 => by rw [h] at h2; cases h2) (fun _ => ⟨rfl, rfl⟩)), rfl, Below.refl _ _⟩
  | true =>
    have h2 : 0 ≤ col ∧ col < 1073741824 := by unfold perm at h; simpa using h
    obtain ⟨c, rfl⟩ := Int.eq_ofNat_of_zero_le h2.1
    refine (Letters_ok c w (by omega)).mono ?_
    rintro e w' ⟨rfl, hb⟩
    exact ⟨_, 0, Bx.mk (LettersSay.mk (fun _ => ⟨by rw [Int.toNat_natCast], rfl⟩) (fun h3 => by rw [h] at h3; cases h3)), rfl, hb⟩
theorem RLetters_int (c : Int) (w : World) (h0 : 0 ≤ c) (h1 : c < 1073741824) : Calls Tryd.prog 10 #[.int .i64 c] w fun e w' => e = .returned (.string (bstr (RfP.ltr 8 (c.toNat + 1)))) ∧ Below w.heap.size w w' := by
  obtain ⟨n, rfl⟩ := Int.eq_ofNat_of_zero_le h0
  rw [Int.toNat_natCast]
  exact RLetters_any n w (by omega)
def TruePost (w : World) (e : Ending) (w' : World) : Prop := e = .returned (.bool true) ∧ Below w.heap.size w w'
set_option maxRecDepth 100000 in
set_option maxHeartbeats 2000000 in
theorem lettersLaw_any (col : Int) (s : List UInt8) (w : World) (hs : s.length ≤ 9223372036854775807) : Calls Tryd.prog 3 #[.int .i64 col, .string (bstr s)] w (TruePost w) := by
  have hsz := bstr_size s
  have HPL := Bx.mk (fun w => Plain_any s w hs)
  have HRP := Bx.mk (fun w => RPlain_any s w hs)
  have HAL := Bx.mk (fun w => All_any _ _ ⟨letter_pred⟩ ef_letter s w hs)
  have HCO := Bx.mk (fun w => Column_any s w)
  have HCS := Bx.mk (show RfP.colS s = if s = [] ∨ 7 < s.length ∨ RfP.allL s = false then (0, 10) else if 1073741824 < RfP.val26 s then (0, 2) else ((RfP.val26 s : Int) - 1, 0) from rfl)
  have HRC := Bx.mk (fun w h0 h7 hL => RColumn_any s w h0 h7 hL)
  have hal : s.all RfP.isLetter = RfP.allL s := rfl
  generalize RfP.plain s = pl at *
  clear hs
  go_enter Tryd.func3, Tryd.ntmps3
  go_upto_region 4 with (first | (go_at_call 8; refine (refs_any _).mono ?_; rintro e w1 ⟨rfl, hb1⟩) | (go_at_call 9; refine (Letters_any col _).mono ?_; rintro e w2 ⟨t, x, HLS, rfl, hb2⟩))
  have HB := Bx.mk (hb1.trans (hb2.mono hb1.size))
  clear hb1 hb2
  have hcol : ∀ b, perm col = b → Bx (perm col = b) := fun _ h => ⟨h⟩
  obtain ⟨pc, hpc⟩ : ∃ b, perm col = b := ⟨_, rfl⟩
  have HPC := hcol _ hpc
  clear hcol hpc
  go_cut [22] (fun v wx => v = .bool (!pc) ∧ wx = w2)
  case first =>
    clear HPL HRP HAL HCO HCS HRC hal
    have HPE := Bx.mk (show perm col = decide (0 ≤ col ∧ col < 1073741824) from rfl)
    by_cases h0 : 0 ≤ col
    · by_cases h1 : col < 1073741824
      · go_wp2
        go_meet
        exact ⟨by rw [← HPC.out, HPE.out]; simp [h0, h1], rfl⟩
      · go_wp2
        go_meet
        exact ⟨by rw [← HPC.out, HPE.out]; simp [h1], rfl⟩
    · go_wp2
      go_meet
      exact ⟨by rw [← HPC.out, HPE.out]; simp [h0], rfl⟩
  case rest =>
  obtain ⟨rfl, rfl⟩ := hcut
  apply_assumption
  go_cut [] (fun wx => Below w.heap.size w wx)
  case first =>
    clear HPL HRP HAL HCO HCS HRC hal
    cases pc with
    | true =>
      have h01 : 0 ≤ col ∧ col < 1073741824 := by have := HPC.out; unfold perm at this; simpa using this
      obtain ⟨h0, h1⟩ := h01
      obtain ⟨rfl, rfl⟩ := HLS.out.yes HPC.out
      go_wp2_with (first | (go_at_call 10; refine (RLetters_int _ _ h0 h1).mono ?_; rintro e w3 ⟨rfl, hb3⟩))
      go_meet
      exact HB.out.trans (hb3.mono HB.out.size)
    | false =>
      obtain ⟨rfl, rfl⟩ := HLS.out.no HPC.out
      have he0 : (bstr []).toList = [] := bstr_list []
      go_wp2
      go_meet
      exact HB.out
  case rest =>
    clear HB HLS
    have HB := Bx.mk hcut; clear hcut
    apply_assumption
    have hse := bstr_emp s
    have HAL2 := Bx.mk hal; clear hal
    by_cases h0 : s = []
    · rw [if_pos (.inl h0)] at HCS
      have hs1 : s.isEmpty = true := by rw [h0]; rfl
      clear h0
      go_wp2_with (first | (go_at_call 11; refine (HCO.out _).mono ?_; rw [HCS.out]; rintro e w4 ⟨rfl, rfl⟩) | (go_at_call 15; refine (HPL.out _).mono ?_; rintro e w5 ⟨rfl, rfl⟩) | (go_at_call 16; refine (HRP.out _).mono ?_; rintro e w6 ⟨rfl, rfl⟩) | (go_at_call 12; refine (HAL.out _).mono ?_; rw [hal]; rintro e w7 ⟨rfl, rfl⟩))
      go_ret
      exact ⟨ret_bool (by simp), HB.out⟩
    have hs1 : s.isEmpty = false := by simpa using h0
    by_cases h7 : 7 < s.length
    · rw [if_pos (.inr (.inl h7))] at HCS
      clear h0
      go_wp2_with (first | (go_at_call 11; refine (HCO.out _).mono ?_; rw [HCS.out]; rintro e w4 ⟨rfl, rfl⟩) | (go_at_call 15; refine (HPL.out _).mono ?_; rintro e w5 ⟨rfl, rfl⟩) | (go_at_call 16; refine (HRP.out _).mono ?_; rintro e w6 ⟨rfl, rfl⟩) | (go_at_call 12; refine (HAL.out _).mono ?_; rw [hal]; rintro e w7 ⟨rfl, rfl⟩))
      go_ret
      exact ⟨ret_bool (by simp), HB.out⟩
    cases hL : RfP.allL s with
    | false =>
      rw [if_pos (.inr (.inr hL))] at HCS
      have HLL := Bx.mk hL
      clear h0 hL
      go_wp2_with (first | (go_at_call 11; refine (HCO.out _).mono ?_; rw [HCS.out]; rintro e w4 ⟨rfl, rfl⟩) | (go_at_call 15; refine (HPL.out _).mono ?_; rintro e w5 ⟨rfl, rfl⟩) | (go_at_call 16; refine (HRP.out _).mono ?_; rintro e w6 ⟨rfl, rfl⟩) | (go_at_call 12; refine (HAL.out _).mono ?_; rw [HAL2.out, HLL.out]; rintro e w7 ⟨rfl, rfl⟩))
      go_ret
      exact ⟨ret_bool (by simp), HB.out⟩
    | true =>
      rw [if_neg (by simp [h0, h7, hL])] at HCS
      have HLL := Bx.mk hL
      have HRC2 := Bx.mk (fun w => HRC.out w h0 (by omega) hL)
      clear h0 hL HRC
      by_cases hbig : 1073741824 < RfP.val26 s
      · rw [if_pos hbig] at HCS
        go_wp2_with (first | (go_at_call 11; refine (HCO.out _).mono ?_; rw [HCS.out]; rintro e w4 ⟨rfl, rfl⟩) | (go_at_call 15; refine (HPL.out _).mono ?_; rintro e w5 ⟨rfl, rfl⟩) | (go_at_call 16; refine (HRP.out _).mono ?_; rintro e w6 ⟨rfl, rfl⟩) | (go_at_call 12; refine (HAL.out _).mono ?_; rw [HAL2.out, HLL.out]; rintro e w7 ⟨rfl, rfl⟩) | (go_at_call 14; refine (HRC2.out _).mono ?_; rintro e w8 ⟨rfl, hb8⟩))
        go_ret
        exact ⟨rfl, below_next HB.out hb8⟩
      · rw [if_neg hbig] at HCS
        go_wp2_with (first | (go_at_call 11; refine (HCO.out _).mono ?_; rw [HCS.out]; rintro e w4 ⟨rfl, rfl⟩) | (go_at_call 15; refine (HPL.out _).mono ?_; rintro e w5 ⟨rfl, rfl⟩) | (go_at_call 16; refine (HRP.out _).mono ?_; rintro e w6 ⟨rfl, rfl⟩) | (go_at_call 12; refine (HAL.out _).mono ?_; rw [HAL2.out, HLL.out]; rintro e w7 ⟨rfl, rfl⟩) | (go_at_call 14; refine (HRC2.out _).mono ?_; rintro e w8 ⟨rfl, hb8⟩))
        go_ret
        exact ⟨rfl, below_next (below_next HB.out (by assumption)) hb8⟩
end Go.Proofs.YtgphgimbnflhfaaDoor
