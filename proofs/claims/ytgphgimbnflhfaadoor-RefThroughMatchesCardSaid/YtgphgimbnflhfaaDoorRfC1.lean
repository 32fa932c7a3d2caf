/- References: the walks of far and fitting. -/
import Derived.Test.YtgphgimbnflhfaaDoorRfR3
set_option linter.unusedSimpArgs false
set_option linter.unusedVariables false
namespace Go.Proofs.YtgphgimbnflhfaaDoor
open Go.RowKit
theorem far_any (n : Int) (w : World) : Calls Tryd.prog 46 #[.int .i64 n] w fun e w' => e = .returned (.bool (RfP.farP n)) ∧ w = w' := by
  have H := Bx.mk (show RfP.farP n = decide (n < -1073741824 ∨ 1073741824 < n) from rfl)
  go_enter Tryd.func46, Tryd.ntmps46
  go_wp2
  all_goals (go_ret; refine ⟨ret_bool ?_, rfl⟩; rw [H.out, Bool.eq_iff_iff]; simp <;> omega)
theorem lfar_any (n : Int) (w : World) : Calls Tryd.prog 23 #[.int .i64 n] w fun e w' => e = .returned (.bool (RfP.farP n)) ∧ w = w' := by
  have H := Bx.mk (show RfP.farP n = decide (n < -1073741824 ∨ 1073741824 < n) from rfl)
  go_enter Tryd.func23, Tryd.ntmps23
  go_wp2
  all_goals (go_ret; refine ⟨ret_bool ?_, rfl⟩; rw [H.out, Bool.eq_iff_iff]; simp <;> omega)
set_option maxRecDepth 100000 in
set_option maxHeartbeats 4000000 in
theorem fitting_any (x : RfP.Ref) (w : World) : Calls Tryd.prog 47 #[.agg (refC x)] w fun e w' => e = .returned (.agg (refC (RfP.fittingP x))) ∧ Below w.heap.size w w' := by
  have hm := fun w => meaning_any x w
  have H := Bx.mk (show RfP.fittingP x = if RfP.insideP (RfP.meaningP x) = true then RfP.meaningP x else RfP.badR from rfl)
  have HI := Bx.mk (show RfP.insideP (RfP.meaningP x) = (RfP.permP (RfP.meaningP x).r && (RfP.permP (RfP.meaningP x).c && (RfP.permP (RfP.meaningP x).r2 && RfP.permP (RfP.meaningP x).c2))) from rfl)
  rw [HI.out] at H
  clear HI
  generalize RfP.meaningP x = y at *
  obtain ⟨y0, y1, y2, y3, y4, y5, y6, y7, y8, y9⟩ := y
  obtain ⟨x0, x1, x2, x3, x4, x5, x6, x7, x8, x9⟩ := x
  unfold refC at *
  dsimp only at *
  have HM := Bx.mk hm; clear hm
  go_enter Tryd.func47, Tryd.ntmps47
  go_wp2_with (first | (go_at_call 48; refine (HM.out _).mono ?_; rintro e w1 ⟨rfl, hb⟩; have HQ : Bx (Row w1 w.heap.size 35 #[Value.string (bstr x0), .int .i64 x1, .int .i64 x2, .int .i64 x3, .int .i64 x4, .int .i64 x5, .bool x6, .bool x7, .bool x8, .bool x9]) := ⟨((Row.new _ _ _).alloc _).below hb (by simp; omega)⟩; have qc := fun o => HQ.out.cell o; have qf := HQ.out.frozen))
  have HZ : Bx (Row w1 (w.heap.size + 1) 35 #[Value.string (bstr []), .int .i64 0, .int .i64 0, .int .i64 0, .int .i64 0, .int .i64 0, .bool false, .bool false, .bool false, .bool false]) := ⟨by
    have := Row.new (w.alloc (.cells #[Value.string (bstr x0), .int .i64 x1, .int .i64 x2, .int .i64 x3, .int .i64 x4, .int .i64 x5, .bool x6, .bool x7, .bool x8, .bool x9] 35)) 35 #[Value.string (bstr []), .int .i64 0, .int .i64 0, .int .i64 0, .int .i64 0, .int .i64 0, .bool false, .bool false, .bool false, .bool false]
    rw [show (w.alloc (.cells #[Value.string (bstr x0), .int .i64 x1, .int .i64 x2, .int .i64 x3, .int .i64 x4, .int .i64 x5, .bool x6, .bool x7, .bool x8, .bool x9] 35)).heap.size = w.heap.size + 1 by simp] at this
    exact this.below hb (by simp)⟩
  have HQ8 := Bx.mk (HQ.out.setAll [Value.string (bstr y0), .int .i64 y1, .int .i64 y2, .int .i64 y3, .int .i64 y4, .int .i64 y5, .bool y6, .bool y7, .bool y8, .bool y9] rfl)
  have HZ8 := Bx.mk (Row.otherAll (show w.heap.size + 1 ≠ w.heap.size by omega) [Value.string (bstr y0), .int .i64 y1, .int .i64 y2, .int .i64 y3, .int .i64 y4, .int .i64 y5, .bool y6, .bool y7, .bool y8, .bool y9] 0 w1 HZ.out)
  have HB8 := Bx.mk (Below.setAllB (Nat.le_refl w.heap.size) [Value.string (bstr y0), .int .i64 y1, .int .i64 y2, .int .i64 y3, .int .i64 y4, .int .i64 y5, .bool y6, .bool y7, .bool y8, .bool y9] 0 w1 ((((Below.refl w.heap.size w).alloc (Nat.le_refl _) _).alloc (by simp) _).trans (hb.mono (by simp; omega))))
  change Calls _ _ _ (setAll w1 w.heap.size 0 [Value.string (bstr y0), .int .i64 y1, .int .i64 y2, .int .i64 y3, .int .i64 y4, .int .i64 y5, .bool y6, .bool y7, .bool y8, .bool y9]) _
  obtain ⟨W8, hW8⟩ : ∃ W8, setAll w1 w.heap.size 0 [Value.string (bstr y0), .int .i64 y1, .int .i64 y2, .int .i64 y3, .int .i64 y4, .int .i64 y5, .bool y6, .bool y7, .bool y8, .bool y9] = W8 := ⟨_, rfl⟩
  rw [hW8] at HQ8 HZ8 HB8 ⊢
  clear hW8 hb HQ qc qf HZ HM
  have qc : ∀ o, W8.cell? ⟨w.heap.size, o, none⟩ = #[Value.string (bstr y0), .int .i64 y1, .int .i64 y2, .int .i64 y3, .int .i64 y4, .int .i64 y5, .bool y6, .bool y7, .bool y8, .bool y9][o]? := fun o => HQ8.out.cell o
  have zc := fun o => HZ8.out.cell o
  have zf := HZ8.out.frozen
  obtain ⟨p1, hp1⟩ : ∃ b, RfP.permP y2 = b := ⟨_, rfl⟩
  obtain ⟨p2, hp2⟩ : ∃ b, RfP.permP y3 = b := ⟨_, rfl⟩
  obtain ⟨p3, hp3⟩ : ∃ b, RfP.permP y4 = b := ⟨_, rfl⟩
  obtain ⟨p4, hp4⟩ : ∃ b, RfP.permP y5 = b := ⟨_, rfl⟩
  rw [hp1, hp2, hp3, hp4] at H
  cases p1 with
  | false =>
    go_wp2_with (first | (go_at_call 32; refine (permitted_any _ _).mono ?_; rw [perm_permP]; rintro e w2 ⟨rfl, rfl⟩))
    exact bodyPost_ret (v := .agg #[Value.string { data := #[] }, .int .i64 4, .int .i64 0, .int .i64 0, .int .i64 0, .int .i64 0, .bool false, .bool false, .bool false, .bool false]) (by simp [results, Tryd.results47, go_sem, zc, zf]) rfl ⟨by rw [H.out]; rfl, Below.setAllB (by omega) [Value.string { data := #[] }, .int .i64 4, .int .i64 0, .int .i64 0, .int .i64 0, .int .i64 0, .bool false, .bool false, .bool false, .bool false] 0 W8 HB8.out⟩
  | true =>
    cases p2 with
    | false =>
      go_wp2_with (first | (go_at_call 32; refine (permitted_any _ _).mono ?_; rw [perm_permP]; rintro e w2 ⟨rfl, rfl⟩))
      exact bodyPost_ret (v := .agg #[Value.string { data := #[] }, .int .i64 4, .int .i64 0, .int .i64 0, .int .i64 0, .int .i64 0, .bool false, .bool false, .bool false, .bool false]) (by simp [results, Tryd.results47, go_sem, zc, zf]) rfl ⟨by rw [H.out]; rfl, Below.setAllB (by omega) [Value.string { data := #[] }, .int .i64 4, .int .i64 0, .int .i64 0, .int .i64 0, .int .i64 0, .bool false, .bool false, .bool false, .bool false] 0 W8 HB8.out⟩
    | true =>
      cases p3 with
      | false =>
        go_wp2_with (first | (go_at_call 32; refine (permitted_any _ _).mono ?_; rw [perm_permP]; rintro e w2 ⟨rfl, rfl⟩))
        exact bodyPost_ret (v := .agg #[Value.string { data := #[] }, .int .i64 4, .int .i64 0, .int .i64 0, .int .i64 0, .int .i64 0, .bool false, .bool false, .bool false, .bool false]) (by simp [results, Tryd.results47, go_sem, zc, zf]) rfl ⟨by rw [H.out]; rfl, Below.setAllB (by omega) [Value.string { data := #[] }, .int .i64 4, .int .i64 0, .int .i64 0, .int .i64 0, .int .i64 0, .bool false, .bool false, .bool false, .bool false] 0 W8 HB8.out⟩
      | true =>
        cases p4 with
        | false =>
          go_wp2_with (first | (go_at_call 32; refine (permitted_any _ _).mono ?_; rw [perm_permP]; rintro e w2 ⟨rfl, rfl⟩))
          exact bodyPost_ret (v := .agg #[Value.string { data := #[] }, .int .i64 4, .int .i64 0, .int .i64 0, .int .i64 0, .int .i64 0, .bool false, .bool false, .bool false, .bool false]) (by simp [results, Tryd.results47, go_sem, zc, zf]) rfl ⟨by rw [H.out]; rfl, Below.setAllB (by omega) [Value.string { data := #[] }, .int .i64 4, .int .i64 0, .int .i64 0, .int .i64 0, .int .i64 0, .bool false, .bool false, .bool false, .bool false] 0 W8 HB8.out⟩
        | true =>
          go_wp2_with (first | (go_at_call 32; refine (permitted_any _ _).mono ?_; rw [perm_permP]; rintro e w2 ⟨rfl, rfl⟩))
          exact bodyPost_ret (v := .agg #[Value.string (bstr y0), .int .i64 y1, .int .i64 y2, .int .i64 y3, .int .i64 y4, .int .i64 y5, .bool y6, .bool y7, .bool y8, .bool y9]) (by simp [results, Tryd.results47, go_sem, zc, zf]) rfl ⟨by rw [H.out]; rfl, Below.setAllB (by omega) [Value.string (bstr y0), .int .i64 y1, .int .i64 y2, .int .i64 y3, .int .i64 y4, .int .i64 y5, .bool y6, .bool y7, .bool y8, .bool y9] 0 W8 HB8.out⟩
end Go.Proofs.YtgphgimbnflhfaaDoor
