/- References: the walks of the reference's Sorted, SheetError and RefError. -/
import Derived.Test.YtmodjglbjempkaaGreatDoorHRfR2
import Derived.Test.YtmodjglbjempkaaGreatDoorHRfW13
import Derived.Test.YtmodjglbjempkaaGreatDoorHPa
set_option linter.unusedSimpArgs false
set_option linter.unusedVariables false
namespace Go.Proofs.YtmodjglbjempkaaGreatDoor
open Go.RowKit
theorem Sorted_any (x : RfP.Ref) (w : World) : Calls Tryz.prog 42 #[.agg (refC x)] w fun e w' => e = .returned (.agg (refC (RfP.sortedP x))) ∧ Below w.heap.size w w' := by
  obtain ⟨sh, k, r, c, r2, c2, ar, ac, ar2, ac2⟩ := x
  by_cases h1 : r2 < r
  · by_cases h2 : c2 < c
    · have H := Bx.mk (show RfP.sortedP ⟨sh, k, r, c, r2, c2, ar, ac, ar2, ac2⟩ = ⟨sh, k, r2, c2, r, c, ar2, ac2, ar, ac⟩ by simp [RfP.sortedP, h1, h2])
      unfold refC
      dsimp only
      go_enter Tryz.func42, Tryz.ntmps42
      go_wp2
      exact bodyPost_ret (v := .agg #[.string (bstr sh), .int .i64 k, .int .i64 r2, .int .i64 c2, .int .i64 r, .int .i64 c, .bool ar2, .bool ac2, .bool ar, .bool ac]) (by simp [results, Tryz.results42, go_sem]) rfl ⟨by rw [H.out], below2 _ _ _⟩
    · have H := Bx.mk (show RfP.sortedP ⟨sh, k, r, c, r2, c2, ar, ac, ar2, ac2⟩ = ⟨sh, k, r2, c, r, c2, ar2, ac, ar, ac2⟩ by simp [RfP.sortedP, h1, h2])
      unfold refC
      dsimp only
      go_enter Tryz.func42, Tryz.ntmps42
      go_wp2
      exact bodyPost_ret (v := .agg #[.string (bstr sh), .int .i64 k, .int .i64 r2, .int .i64 c, .int .i64 r, .int .i64 c2, .bool ar2, .bool ac, .bool ar, .bool ac2]) (by simp [results, Tryz.results42, go_sem]) rfl ⟨by rw [H.out], below2 _ _ _⟩
  · by_cases h2 : c2 < c
    · have H := Bx.mk (show RfP.sortedP ⟨sh, k, r, c, r2, c2, ar, ac, ar2, ac2⟩ = ⟨sh, k, r, c2, r2, c, ar, ac2, ar2, ac⟩ by simp [RfP.sortedP, h1, h2])
      unfold refC
      dsimp only
      go_enter Tryz.func42, Tryz.ntmps42
      go_wp2
      exact bodyPost_ret (v := .agg #[.string (bstr sh), .int .i64 k, .int .i64 r, .int .i64 c2, .int .i64 r2, .int .i64 c, .bool ar, .bool ac2, .bool ar2, .bool ac]) (by simp [results, Tryz.results42, go_sem]) rfl ⟨by rw [H.out], below2 _ _ _⟩
    · have H := Bx.mk (show RfP.sortedP ⟨sh, k, r, c, r2, c2, ar, ac, ar2, ac2⟩ = ⟨sh, k, r, c, r2, c2, ar, ac, ar2, ac2⟩ by simp [RfP.sortedP, h1, h2])
      unfold refC
      dsimp only
      go_enter Tryz.func42, Tryz.ntmps42
      go_wp2
      exact bodyPost_ret (v := .agg #[.string (bstr sh), .int .i64 k, .int .i64 r, .int .i64 c, .int .i64 r2, .int .i64 c2, .bool ar, .bool ac, .bool ar2, .bool ac2]) (by simp [results, Tryz.results42, go_sem]) rfl ⟨by rw [H.out], below2 _ _ _⟩
theorem print_pred : PredC 60 RfP.printC := fun c w => by
  have H := Bx.mk (show RfP.printC c = (decide ((32 : Int) ≤ (c.toNat : Int)) && decide ((c.toNat : Int) ≤ 126)) by
    unfold RfP.printC
    rw [Bool.eq_iff_iff]; simp [UInt8.le_iff_toNat_le]; omega)
  have hc := c.toNat_lt
  go_enter Tryz.func60, Tryz.ntmps60
  go_wp2
  all_goals (go_ret; refine ⟨ret_bool ?_, rfl⟩; rw [H.out, Bool.eq_iff_iff]; simp; omega)
theorem ef_print : ∀ args w, (callFunc 60 args).run Tryz.prog w = .ok (.enter 60 args) w := Go.Proofs.enters_of Tryz.func60 (by kernel_rfl) rfl
theorem SheetError_any (s : List UInt8) (w : World) (hs : s.length ≤ 9223372036854775807) : Calls Tryz.prog 29 #[.string (bstr s)] w fun e w' => e = .returned (.int .i64 (RfP.nameP s)) ∧ w = w' := by
  have hsz := bstr_size s
  have H := Bx.mk (show RfP.nameP s = if 200 < s.length then 3 else if s.all RfP.printC = false then 9 else 0 from rfl)
  have HA := Bx.mk (fun w => All_any _ _ ⟨print_pred⟩ ef_print s w hs)
  clear hs
  by_cases h200 : 200 < s.length
  · rw [if_pos h200] at H
    go_enter Tryz.func29, Tryz.ntmps29
    go_wp2
    go_ret
    exact ⟨by rw [H.out]; rfl, rfl⟩
  · rw [if_neg h200] at H
    cases hp : s.all RfP.printC with
    | false =>
      have HP := Bx.mk hp
      rw [if_pos hp] at H
      clear hp
      go_enter Tryz.func29, Tryz.ntmps29
      go_wp2_with (first | (go_at_call 59; refine (HA.out _).mono ?_; rw [HP.out]; rintro e w7 ⟨rfl, rfl⟩))
      go_ret
      exact ⟨by rw [H.out]; rfl, rfl⟩
    | true =>
      have HP := Bx.mk hp
      rw [if_neg (by rw [hp]; simp)] at H
      clear hp
      go_enter Tryz.func29, Tryz.ntmps29
      go_wp2_with (first | (go_at_call 59; refine (HA.out _).mono ?_; rw [HP.out]; rintro e w7 ⟨rfl, rfl⟩))
      go_ret
      exact ⟨by rw [H.out]; rfl, rfl⟩
set_option maxRecDepth 100000 in
set_option maxHeartbeats 4000000 in
theorem RefError_any (x : RfP.Ref) (w : World) (hs : x.sh.length ≤ 9223372036854775807) : Calls Tryz.prog 43 #[.agg (refC x)] w fun e w' => e = .returned (.int .i64 (RfP.errP x)) ∧ Below w.heap.size w w' := by
  have HX := Bx.mk (show RfP.errP x = if x.k < 0 ∨ 4 < x.k then 8 else if RfP.nameP x.sh ≠ 0 then RfP.nameP x.sh else if RfP.formP x = false then 4 else if (RfP.permP x.r && (RfP.permP x.c && (RfP.permP x.r2 && RfP.permP x.c2))) = false then 2 else if (1 ≤ x.k ∧ x.k ≤ 3) ∧ (x.r2 < x.r ∨ x.c2 < x.c) then 5 else 0 from rfl)
  have HF := Bx.mk (show RfP.formP x = !((x.k == 0 && !(RfP.thirdP x && RfP.fourthP x)) || ((x.k == 2 && !(RfP.secondP x && RfP.fourthP x)) || ((x.k == 3 && !(RfP.firstP x && RfP.thirdP x)) || (x.k == 4 && !(RfP.firstP x && (RfP.secondP x && (RfP.thirdP x && (RfP.fourthP x && x.sh.isEmpty)))))))) from rfl)
  have HN := Bx.mk (fun w => SheetError_any x.sh w hs)
  clear hs
  have H1 : RfP.firstP x = (x.r == 0 && !x.ar) := rfl
  have H2 : RfP.secondP x = (x.c == 0 && !x.ac) := rfl
  have H3 : RfP.thirdP x = (x.r2 == 0 && !x.ar2) := rfl
  have H4 : RfP.fourthP x = (x.c2 == 0 && !x.ac2) := rfl
  generalize RfP.firstP x = f1 at *
  generalize RfP.secondP x = f2 at *
  generalize RfP.thirdP x = f3 at *
  generalize RfP.fourthP x = f4 at *
  generalize RfP.errP x = E at *
  generalize RfP.formP x = fo at *
  obtain ⟨sh, k, r, c, r2, c2, ar, ac, ar2, ac2⟩ := x
  unfold refC
  dsimp only at *
  generalize RfP.nameP sh = nm at *
  obtain ⟨e1, he1⟩ : ∃ b, (r == 0) = b := ⟨_, rfl⟩
  obtain ⟨e2, he2⟩ : ∃ b, (c == 0) = b := ⟨_, rfl⟩
  obtain ⟨e3, he3⟩ : ∃ b, (r2 == 0) = b := ⟨_, rfl⟩
  obtain ⟨e4, he4⟩ : ∃ b, (c2 == 0) = b := ⟨_, rfl⟩
  rw [he1] at H1; rw [he2] at H2; rw [he3] at H3; rw [he4] at H4
  have B1 := Bx.mk H1; clear H1
  have B2 := Bx.mk H2; clear H2
  have B3 := Bx.mk H3; clear H3
  have B4 := Bx.mk H4; clear H4
  have hse := bstr_emp sh
  have HB := Bx.mk ((Below.refl w.heap.size w).alloc (Nat.le_refl _) (.cells #[Value.string (bstr sh), .int .i64 k, .int .i64 r, .int .i64 c, .int .i64 r2, .int .i64 c2, .bool ar, .bool ac, .bool ar2, .bool ac2] 35))
  by_cases hk : k < 0 ∨ 4 < k
  · rw [if_pos hk] at HX
    rcases hk with hk | hk
    all_goals
      go_enter Tryz.func43, Tryz.ntmps43
      go_wp2
      go_ret
      exact ⟨by rw [HX.out]; rfl, HB.out⟩
  rw [if_neg hk] at HX
  have hk0 : 0 ≤ k := by omega
  have hk4 : k ≤ 4 := by omega
  clear hk
  by_cases hn : nm = 0
  · rw [if_neg (by simp [hn])] at HX
    subst hn
    go_enter Tryz.func43, Tryz.ntmps43
    go_upto_region 6 with (first | (go_at_call 29; refine (HN.out _).mono ?_; rintro e w1 ⟨rfl, rfl⟩))
    have hR : ∀ o, (w.alloc (.cells #[Value.string (bstr sh), .int .i64 k, .int .i64 r, .int .i64 c, .int .i64 r2, .int .i64 c2, .bool ar, .bool ac, .bool ar2, .bool ac2] 35)).cell? ⟨w.heap.size, o, none⟩ = #[Value.string (bstr sh), .int .i64 k, .int .i64 r, .int .i64 c, .int .i64 r2, .int .i64 c2, .bool ar, .bool ac, .bool ar2, .bool ac2][o]? := fun o => (Row.new w 35 _).cell o
    obtain ⟨wa, hwa⟩ : ∃ wa : World, w.alloc (.cells #[Value.string (bstr sh), .int .i64 k, .int .i64 r, .int .i64 c, .int .i64 r2, .int .i64 c2, .bool ar, .bool ac, .bool ar2, .bool ac2] 35) = wa := ⟨_, rfl⟩
    rw [hwa] at hR HB ⊢
    clear hwa HN
    go_cut [4] (fun v wx => v = .bool f1 ∧ wx = wa)
    case first =>
      clear HX HF
      go_wp2
      all_goals
        go_meet
        refine ⟨?_, rfl⟩
        rw [B1.out]
        try simp [*]
    case rest =>
    obtain ⟨rfl, rfl⟩ := hcut
    apply_assumption
    go_upto_region 7 with fail
    go_cut [5] (fun v wx => v = .bool f2 ∧ wx = wc)
    case first =>
      clear HX HF
      go_wp2
      all_goals
        go_meet
        refine ⟨?_, rfl⟩
        rw [B2.out]
        try simp [*]
    case rest =>
    obtain ⟨rfl, rfl⟩ := hcut
    apply_assumption
    go_upto_region 8 with fail
    go_cut [6] (fun v wx => v = .bool f3 ∧ wx = wc)
    case first =>
      clear HX HF
      go_wp2
      all_goals
        go_meet
        refine ⟨?_, rfl⟩
        rw [B3.out]
        try simp [*]
    case rest =>
    obtain ⟨rfl, rfl⟩ := hcut
    apply_assumption
    go_upto_region 9 with fail
    go_cut [7] (fun v wx => v = .bool f4 ∧ wx = wc)
    case first =>
      clear HX HF
      go_wp2
      all_goals
        go_meet
        refine ⟨?_, rfl⟩
        rw [B4.out]
        try simp [*]
    case rest =>
    obtain ⟨rfl, rfl⟩ := hcut
    apply_assumption
    clear B1 B2 B3 B4 he1 he2 he3 he4
    have hk5 : k = 0 ∨ k = 1 ∨ k = 2 ∨ k = 3 ∨ k = 4 := by omega
    clear hk0 hk4
    have HSE := Bx.mk (show sh.isEmpty = (bstr sh).toList.isEmpty from hse.symm)
    rcases hk5 with rfl | rfl | rfl | rfl | rfl
    · have HFF : Bx (fo = (f3 && f4)) := ⟨by rw [HF.out]; simp⟩
      clear HF
      cases f3 <;> cases f4
      all_goals
        go_wp2_with (first | (go_at_call 52; refine (inside_any _ _).mono ?_; rw [perm_permP]; rintro e w2 ⟨rfl, rfl⟩))
        all_goals
          go_ret
          refine ⟨?_, HB.out⟩
          rw [HX.out, HFF.out]
          clear HX HFF
          first
            | rfl
            | (simp_all; done)
    · have HFF : Bx (fo = true) := ⟨by rw [HF.out]; simp⟩
      clear HF
      go_wp2_with (first | (go_at_call 52; refine (inside_any _ _).mono ?_; rw [perm_permP]; rintro e w2 ⟨rfl, rfl⟩))
      all_goals
        go_ret
        refine ⟨?_, HB.out⟩
        rw [HX.out, HFF.out]
        clear HX HFF
        first
          | rfl
          | (simp_all; done)
    · have HFF : Bx (fo = (f2 && f4)) := ⟨by rw [HF.out]; simp⟩
      clear HF
      cases f2 <;> cases f4
      all_goals
        go_wp2_with (first | (go_at_call 52; refine (inside_any _ _).mono ?_; rw [perm_permP]; rintro e w2 ⟨rfl, rfl⟩))
        all_goals
          go_ret
          refine ⟨?_, HB.out⟩
          rw [HX.out, HFF.out]
          clear HX HFF
          first
            | rfl
            | (simp_all; done)
    · have HFF : Bx (fo = (f1 && f3)) := ⟨by rw [HF.out]; simp⟩
      clear HF
      cases f1 <;> cases f3
      all_goals
        go_wp2_with (first | (go_at_call 52; refine (inside_any _ _).mono ?_; rw [perm_permP]; rintro e w2 ⟨rfl, rfl⟩))
        all_goals
          go_ret
          refine ⟨?_, HB.out⟩
          rw [HX.out, HFF.out]
          clear HX HFF
          first
            | rfl
            | (simp_all; done)
    · have HFF : Bx (fo = (f1 && (f2 && (f3 && (f4 && sh.isEmpty))))) := ⟨by rw [HF.out]; simp⟩
      clear HF
      obtain ⟨se, hse2⟩ : ∃ b, sh.isEmpty = b := ⟨_, rfl⟩
      rw [hse2] at HFF hse
      clear hse2 HSE
      all_goals
        go_wp2_with (first | (go_at_call 52; refine (inside_any _ _).mono ?_; rw [perm_permP]; rintro e w2 ⟨rfl, rfl⟩))
        all_goals
          go_ret
          refine ⟨?_, HB.out⟩
          rw [HX.out, HFF.out]
          clear HX HFF
          first
            | rfl
            | (simp_all; done)
  · have hn' : (nm != 0) = true := by simpa using hn
    rw [if_pos hn] at HX
    clear hn
    go_enter Tryz.func43, Tryz.ntmps43
    go_wp2_with (first | (go_at_call 29; refine (HN.out _).mono ?_; rintro e w1 ⟨rfl, rfl⟩))
    go_ret
    exact ⟨by rw [HX.out]; rfl, HB.out⟩
end Go.Proofs.YtmodjglbjempkaaGreatDoor
