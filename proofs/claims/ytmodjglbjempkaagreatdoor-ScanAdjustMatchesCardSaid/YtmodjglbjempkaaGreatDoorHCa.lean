/- References: the walks of far and fitting. References: the walk of Copied. References: blockError, the reference's Copied and Moved, by the reckoning walk. References: Moved, by the reckoning walk. -/
import Derived.Test.YtmodjglbjempkaaGreatDoorHRfR3
import Derived.Test.YtmodjglbjempkaaGreatDoorHRfT0
import Derived.Test.YtmodjglbjempkaaGreatDoorHSb
set_option linter.unusedSimpArgs false
set_option linter.unusedVariables false
namespace Go.Proofs.YtmodjglbjempkaaGreatDoor
open Go.RowKit
theorem far_any (n : Int) (w : World) : Calls Tryz.prog 98 #[.int .i64 n] w fun e w' => e = .returned (.bool (RfP.farP n)) ∧ w = w' := by
  have H := Bx.mk (show RfP.farP n = decide (n < -1073741824 ∨ 1073741824 < n) from rfl)
  go_enter Tryz.func98, Tryz.ntmps98
  go_wp2
  all_goals (go_ret; refine ⟨ret_bool ?_, rfl⟩; rw [H.out, Bool.eq_iff_iff]; simp <;> omega)
theorem lfar_any (n : Int) (w : World) : Calls Tryz.prog 17 #[.int .i64 n] w fun e w' => e = .returned (.bool (RfP.farP n)) ∧ w = w' := by
  have H := Bx.mk (show RfP.farP n = decide (n < -1073741824 ∨ 1073741824 < n) from rfl)
  go_enter Tryz.func17, Tryz.ntmps17
  go_wp2
  all_goals (go_ret; refine ⟨ret_bool ?_, rfl⟩; rw [H.out, Bool.eq_iff_iff]; simp <;> omega)
set_option maxRecDepth 100000 in
set_option maxHeartbeats 4000000 in
theorem fitting_any (x : RfP.Ref) (w : World) : Calls Tryz.prog 99 #[.agg (refC x)] w fun e w' => e = .returned (.agg (refC (RfP.fittingP x))) ∧ Below w.heap.size w w' := by
  have hm := fun w => meaning_any x w
  have H := Bx.mk (show RfP.fittingP x = if RfP.insideP (RfP.meaningP x) = true then RfP.meaningP x else RfP.badR from rfl)
  have HI := Bx.mk (show RfP.insideP (RfP.meaningP x) = (RfP.permP (RfP.meaningP x).r && (RfP.permP (RfP.meaningP x).c && (RfP.permP (RfP.meaningP x).r2 && RfP.permP (RfP.meaningP x).c2))) from rfl)
  rw [HI.out] at H
  clear HI
  generalize RfP.meaningP x = y at *
  obtain ⟨y0, y1, y2, y3, y4, y5, y6, y7, y8, y9⟩ := y
  obtain ⟨x0, x1, x2, x3, x4, x5, x6, x7, x8, x9⟩ := x
  unfold refC at *
  dsimp only at *
  have HM := Bx.mk hm; clear hm
  go_enter Tryz.func99, Tryz.ntmps99
  go_wp2_with (first | (go_at_call 100; refine (HM.out _).mono ?_; rintro e w1 ⟨rfl, hb⟩; have HQ : Bx (Row w1 w.heap.size 35 #[Value.string (bstr x0), .int .i64 x1, .int .i64 x2, .int .i64 x3, .int .i64 x4, .int .i64 x5, .bool x6, .bool x7, .bool x8, .bool x9]) := ⟨((Row.new _ _ _).alloc _).below hb (by simp; omega)⟩; have qc := fun o => HQ.out.cell o; have qf := HQ.out.frozen))
  have HZ : Bx (Row w1 (w.heap.size + 1) 35 #[Value.string (bstr []), .int .i64 0, .int .i64 0, .int .i64 0, .int .i64 0, .int .i64 0, .bool false, .bool false, .bool false, .bool false]) := ⟨by
    have := Row.new (w.alloc (.cells #[Value.string (bstr x0), .int .i64 x1, .int .i64 x2, .int .i64 x3, .int .i64 x4, .int .i64 x5, .bool x6, .bool x7, .bool x8, .bool x9] 35)) 35 #[Value.string (bstr []), .int .i64 0, .int .i64 0, .int .i64 0, .int .i64 0, .int .i64 0, .bool false, .bool false, .bool false, .bool false]
    rw [show (w.alloc (.cells #[Value.string (bstr x0), .int .i64 x1, .int .i64 x2, .int .i64 x3, .int .i64 x4, .int .i64 x5, .bool x6, .bool x7, .bool x8, .bool x9] 35)).heap.size = w.heap.size + 1 by simp] at this
    exact this.below hb (by simp)⟩
  have HQ8 := Bx.mk (HQ.out.setAll [Value.string (bstr y0), .int .i64 y1, .int .i64 y2, .int .i64 y3, .int .i64 y4, .int .i64 y5, .bool y6, .bool y7, .bool y8, .bool y9] rfl)
  have HZ8 := Bx.mk (Row.otherAll (show w.heap.size + 1 ≠ w.heap.size by omega) [Value.string (bstr y0), .int .i64 y1, .int .i64 y2, .int .i64 y3, .int .i64 y4, .int .i64 y5, .bool y6, .bool y7, .bool y8, .bool y9] 0 w1 HZ.out)
  have HB8 := Bx.mk (Below.setAllB (Nat.le_refl w.heap.size) [Value.string (bstr y0), .int .i64 y1, .int .i64 y2, .int .i64 y3, .int .i64 y4, .int .i64 y5, .bool y6, .bool y7, .bool y8, .bool y9] 0 w1 ((((Below.refl w.heap.size w).alloc (Nat.le_refl _) _).alloc (by simp) _).trans (hb.mono (by simp; omega))))
  change Calls _ _ _ (setAll w1 w.heap.size 0 [Value.string (bstr y0), .int .i64 y1, .int .i64 y2, .int .i64 y3, .int .i64 y4, .int .i64 y5, .bool y6, .bool y7, .bool y8, .bool y9]) _
  obtain ⟨W8, hW8⟩ : ∃ W8, setAll w1 w.heap.size 0 [Value.string (bstr y0), .int .i64 y1, .int .i64 y2, .int .i64 y3, .int .i64 y4, .int .i64 y5, .bool y6, .bool y7, .bool y8, .bool y9] = W8 := ⟨_, rfl⟩
  rw [hW8] at HQ8 HZ8 HB8 ⊢
  clear hW8 hb HQ qc qf HZ HM
  have qc : ∀ o, W8.cell? ⟨w.heap.size, o, none⟩ = #[Value.string (bstr y0), .int .i64 y1, .int .i64 y2, .int .i64 y3, .int .i64 y4, .int .i64 y5, .bool y6, .bool y7, .bool y8, .bool y9][o]? := fun o => HQ8.out.cell o
  have zc := fun o => HZ8.out.cell o
  have zf := HZ8.out.frozen
  obtain ⟨p1, hp1⟩ : ∃ b, RfP.permP y2 = b := ⟨_, rfl⟩
  obtain ⟨p2, hp2⟩ : ∃ b, RfP.permP y3 = b := ⟨_, rfl⟩
  obtain ⟨p3, hp3⟩ : ∃ b, RfP.permP y4 = b := ⟨_, rfl⟩
  obtain ⟨p4, hp4⟩ : ∃ b, RfP.permP y5 = b := ⟨_, rfl⟩
  rw [hp1, hp2, hp3, hp4] at H
  cases p1 with
  | false =>
    go_wp2_with (first | (go_at_call 102; refine (permitted_any _ _).mono ?_; rw [perm_permP]; rintro e w2 ⟨rfl, rfl⟩))
    exact bodyPost_ret (v := .agg #[Value.string { data := #[] }, .int .i64 4, .int .i64 0, .int .i64 0, .int .i64 0, .int .i64 0, .bool false, .bool false, .bool false, .bool false]) (by simp [results, Tryz.results99, go_sem, zc, zf]) rfl ⟨by rw [H.out]; rfl, Below.setAllB (by omega) [Value.string { data := #[] }, .int .i64 4, .int .i64 0, .int .i64 0, .int .i64 0, .int .i64 0, .bool false, .bool false, .bool false, .bool false] 0 W8 HB8.out⟩
  | true =>
    cases p2 with
    | false =>
      go_wp2_with (first | (go_at_call 102; refine (permitted_any _ _).mono ?_; rw [perm_permP]; rintro e w2 ⟨rfl, rfl⟩))
      exact bodyPost_ret (v := .agg #[Value.string { data := #[] }, .int .i64 4, .int .i64 0, .int .i64 0, .int .i64 0, .int .i64 0, .bool false, .bool false, .bool false, .bool false]) (by simp [results, Tryz.results99, go_sem, zc, zf]) rfl ⟨by rw [H.out]; rfl, Below.setAllB (by omega) [Value.string { data := #[] }, .int .i64 4, .int .i64 0, .int .i64 0, .int .i64 0, .int .i64 0, .bool false, .bool false, .bool false, .bool false] 0 W8 HB8.out⟩
    | true =>
      cases p3 with
      | false =>
        go_wp2_with (first | (go_at_call 102; refine (permitted_any _ _).mono ?_; rw [perm_permP]; rintro e w2 ⟨rfl, rfl⟩))
        exact bodyPost_ret (v := .agg #[Value.string { data := #[] }, .int .i64 4, .int .i64 0, .int .i64 0, .int .i64 0, .int .i64 0, .bool false, .bool false, .bool false, .bool false]) (by simp [results, Tryz.results99, go_sem, zc, zf]) rfl ⟨by rw [H.out]; rfl, Below.setAllB (by omega) [Value.string { data := #[] }, .int .i64 4, .int .i64 0, .int .i64 0, .int .i64 0, .int .i64 0, .bool false, .bool false, .bool false, .bool false] 0 W8 HB8.out⟩
      | true =>
        cases p4 with
        | false =>
          go_wp2_with (first | (go_at_call 102; refine (permitted_any _ _).mono ?_; rw [perm_permP]; rintro e w2 ⟨rfl, rfl⟩))
          exact bodyPost_ret (v := .agg #[Value.string { data := #[] }, .int .i64 4, .int .i64 0, .int .i64 0, .int .i64 0, .int .i64 0, .bool false, .bool false, .bool false, .bool false]) (by simp [results, Tryz.results99, go_sem, zc, zf]) rfl ⟨by rw [H.out]; rfl, Below.setAllB (by omega) [Value.string { data := #[] }, .int .i64 4, .int .i64 0, .int .i64 0, .int .i64 0, .int .i64 0, .bool false, .bool false, .bool false, .bool false] 0 W8 HB8.out⟩
        | true =>
          go_wp2_with (first | (go_at_call 102; refine (permitted_any _ _).mono ?_; rw [perm_permP]; rintro e w2 ⟨rfl, rfl⟩))
          exact bodyPost_ret (v := .agg #[Value.string (bstr y0), .int .i64 y1, .int .i64 y2, .int .i64 y3, .int .i64 y4, .int .i64 y5, .bool y6, .bool y7, .bool y8, .bool y9]) (by simp [results, Tryz.results99, go_sem, zc, zf]) rfl ⟨by rw [H.out]; rfl, Below.setAllB (by omega) [Value.string (bstr y0), .int .i64 y1, .int .i64 y2, .int .i64 y3, .int .i64 y4, .int .i64 y5, .bool y6, .bool y7, .bool y8, .bool y9] 0 W8 HB8.out⟩
end Go.Proofs.YtmodjglbjempkaaGreatDoor
namespace Go.Proofs.YtmodjglbjempkaaGreatDoor
open Go.RowKit
namespace RfP
def copiedX (x : Ref) (d r : Int) : Ref × Int := if checkP x ≠ 0 then (zeroR, checkP x) else if (farP d || farP r) = true then (zeroR, 2) else (copyP x d r, 0)
end RfP
set_option maxRecDepth 100000 in
set_option maxHeartbeats 8000000 in
theorem Copied_any (x : RfP.Ref) (d rt : Int) (w : World) : Calls Tryz.prog 44 #[.agg (refC x), .int .i64 d, .int .i64 rt] w (RefPost w (RfP.copiedX x d rt)) := by
  have HX := Bx.mk (show RfP.copiedX x d rt = if RfP.checkP x ≠ 0 then (RfP.zeroR, RfP.checkP x) else if (RfP.farP d || RfP.farP rt) = true then (RfP.zeroR, 2) else (RfP.copyP x d rt, 0) from rfl)
  have hk := fun w => Check_any x w
  have HOK := Bx.mk (RfP.check_ok x)
  have HFD := Bx.mk (show RfP.farP d = decide (d < -1073741824 ∨ 1073741824 < d) from rfl)
  have HFR := Bx.mk (show RfP.farP rt = decide (rt < -1073741824 ∨ 1073741824 < rt) from rfl)
  have hm := fun w => meaning_any (RfP.addP x d rt) w
  have ho := fun w => ordered_any (RfP.meaningP (RfP.addP x d rt)) w
  have hf := fun w => fitting_any (RfP.orderedP (RfP.meaningP (RfP.addP x d rt))) w
  rw [show RfP.fittingP (RfP.orderedP (RfP.meaningP (RfP.addP x d rt))) = RfP.copyP x d rt from rfl] at hf
  generalize RfP.copyP x d rt = y at *
  generalize RfP.orderedP (RfP.meaningP (RfP.addP x d rt)) = u at *
  generalize RfP.meaningP (RfP.addP x d rt) = v at *
  obtain ⟨sh, k, r, c, r2, c2, ar, ac, ar2, ac2⟩ := x
  unfold RfP.addP at hm
  dsimp only at hm
  obtain ⟨n1, hn1⟩ : ∃ n, RfP.mv r d ar = n := ⟨_, rfl⟩
  obtain ⟨n2, hn2⟩ : ∃ n, RfP.mv r2 d ar2 = n := ⟨_, rfl⟩
  obtain ⟨n3, hn3⟩ : ∃ n, RfP.mv c rt ac = n := ⟨_, rfl⟩
  obtain ⟨n4, hn4⟩ : ∃ n, RfP.mv c2 rt ac2 = n := ⟨_, rfl⟩
  rw [hn1, hn2, hn3, hn4] at hm
  have HN1 := Bx.mk hn1.symm; have HN2 := Bx.mk hn2.symm; have HN3 := Bx.mk hn3.symm; have HN4 := Bx.mk hn4.symm
  clear hn1 hn2 hn3 hn4
  generalize RfP.checkP ⟨sh, k, r, c, r2, c2, ar, ac, ar2, ac2⟩ = E at *
  obtain ⟨v0, v1, v2, v3, v4, v5, v6, v7, v8, v9⟩ := v
  obtain ⟨u0, u1, u2, u3, u4, u5, u6, u7, u8, u9⟩ := u
  obtain ⟨y0, y1, y2, y3, y4, y5, y6, y7, y8, y9⟩ := y
  unfold refC at hk hm ho hf
  unfold refC
  dsimp only at *
  have HK := Bx.mk hk; have HM := Bx.mk hm; have HO := Bx.mk ho; have HF := Bx.mk hf
  clear hk hm ho hf
  have HP := Bx.mk ((Row.new w 35 #[Value.string (bstr sh), .int .i64 k, .int .i64 r, .int .i64 c, .int .i64 r2, .int .i64 c2, .bool ar, .bool ac, .bool ar2, .bool ac2]).alloc (.cells #[Value.string { data := #[] }, .int .i64 0, .int .i64 0, .int .i64 0, .int .i64 0, .int .i64 0, .bool false, .bool false, .bool false, .bool false] 35))
  have HZ : Bx (Row ((w.alloc (.cells #[Value.string (bstr sh), .int .i64 k, .int .i64 r, .int .i64 c, .int .i64 r2, .int .i64 c2, .bool ar, .bool ac, .bool ar2, .bool ac2] 35)).alloc (.cells #[Value.string { data := #[] }, .int .i64 0, .int .i64 0, .int .i64 0, .int .i64 0, .int .i64 0, .bool false, .bool false, .bool false, .bool false] 35)) (w.heap.size + 1) 35 #[Value.string (bstr []), .int .i64 0, .int .i64 0, .int .i64 0, .int .i64 0, .int .i64 0, .bool false, .bool false, .bool false, .bool false]) := ⟨by
    have := Row.new (w.alloc (.cells #[Value.string (bstr sh), .int .i64 k, .int .i64 r, .int .i64 c, .int .i64 r2, .int .i64 c2, .bool ar, .bool ac, .bool ar2, .bool ac2] 35)) 35 #[Value.string (bstr []), .int .i64 0, .int .i64 0, .int .i64 0, .int .i64 0, .int .i64 0, .bool false, .bool false, .bool false, .bool false]
    rw [show (w.alloc (.cells #[Value.string (bstr sh), .int .i64 k, .int .i64 r, .int .i64 c, .int .i64 r2, .int .i64 c2, .bool ar, .bool ac, .bool ar2, .bool ac2] 35)).heap.size = w.heap.size + 1 by simp] at this
    exact this⟩
  have HB := Bx.mk (below2 w (.cells #[Value.string (bstr sh), .int .i64 k, .int .i64 r, .int .i64 c, .int .i64 r2, .int .i64 c2, .bool ar, .bool ac, .bool ar2, .bool ac2] 35) (.cells #[Value.string { data := #[] }, .int .i64 0, .int .i64 0, .int .i64 0, .int .i64 0, .int .i64 0, .bool false, .bool false, .bool false, .bool false] 35))
  go_enter Tryz.func44, Tryz.ntmps44
  by_cases hE : E = 0
  · subst hE
    rw [if_neg (by simp)] at HX
    obtain ⟨hk, hform, hin, hord⟩ := HOK.out rfl
    clear HOK hk hform hord
    have hin2 : (0 ≤ r ∧ r < 1073741824) ∧ (0 ≤ c ∧ c < 1073741824) ∧ (0 ≤ r2 ∧ r2 < 1073741824) ∧ (0 ≤ c2 ∧ c2 < 1073741824) := by
      unfold RfP.insideP RfP.permP at hin; simpa using hin
    clear hin
    obtain ⟨⟨r_0, r_1⟩, ⟨c_0, c_1⟩, ⟨r2_0, r2_1⟩, c2_0, c2_1⟩ := hin2
    go_upto_region 4 with (first | (go_at_call 57; refine (HK.out _).mono ?_; rintro e w1 ⟨rfl, hb1⟩; have HP1 := Bx.mk (HP.out.below hb1 (by simp; omega)); have HZ1 := Bx.mk (HZ.out.below hb1 (by simp)); have pc1 := fun o => HP1.out.cell o; have pf1 := HP1.out.frozen; have zc1 := fun o => HZ1.out.cell o; have zf1 := HZ1.out.frozen))
    have HB1 := Bx.mk (below_next HB.out hb1)
    clear HP HZ HB hb1
    have lw1 := HP1.out.lt
    have lz1 := HZ1.out.lt
    cases hfd : RfP.farP d with
    | true =>
      rw [hfd] at HX
      go_wp2_with (first | (go_at_call 98; refine (far_any _ _).mono ?_; rintro e w2 ⟨rfl, rfl⟩))
      exact bodyPost_ret (v := .tuple #[.agg #[Value.string { data := #[] }, .int .i64 0, .int .i64 0, .int .i64 0, .int .i64 0, .int .i64 0, .bool false, .bool false, .bool false, .bool false], .int .i64 2]) (by simp [results, Tryz.results44, go_sem, zc1, zf1]) rfl ⟨by rw [HX.out]; rfl, Below.setAllB (by omega) [Value.string { data := #[] }, .int .i64 0, .int .i64 0, .int .i64 0, .int .i64 0, .int .i64 0, .bool false, .bool false, .bool false, .bool false] 0 _ HB1.out⟩
    | false =>
      cases hfr : RfP.farP rt with
      | true =>
        rw [hfd, hfr] at HX
        go_wp2_with (first | (go_at_call 98; refine (far_any _ _).mono ?_; rintro e w2 ⟨rfl, rfl⟩))
        exact bodyPost_ret (v := .tuple #[.agg #[Value.string { data := #[] }, .int .i64 0, .int .i64 0, .int .i64 0, .int .i64 0, .int .i64 0, .bool false, .bool false, .bool false, .bool false], .int .i64 2]) (by simp [results, Tryz.results44, go_sem, zc1, zf1]) rfl ⟨by rw [HX.out]; rfl, Below.setAllB (by omega) [Value.string { data := #[] }, .int .i64 0, .int .i64 0, .int .i64 0, .int .i64 0, .int .i64 0, .bool false, .bool false, .bool false, .bool false] 0 _ HB1.out⟩
      | false =>
        rw [hfd, hfr, if_neg (by simp)] at HX
        rw [hfd] at HFD
        rw [hfr] at HFR
        have hdb : -1073741824 ≤ d ∧ d ≤ 1073741824 := by have := HFD.out; simp at this; omega
        have hrb : -1073741824 ≤ rt ∧ rt ≤ 1073741824 := by have := HFR.out; simp at this; omega
        obtain ⟨hd1, hd2⟩ := hdb
        obtain ⟨hr1, hr2⟩ := hrb
        clear HFD HFR
        go_wp2_with (first | (go_at_call 98; refine (far_any _ _).mono ?_; rintro e w2 ⟨rfl, rfl⟩))
        clear hfd hfr
        have HS0 := Bx.mk (Row.new w1 108 #[Value.pointer (some ⟨w.heap.size, 2, none⟩), .bool ar, .int .i64 d, .pointer (some ⟨w.heap.size, 4, none⟩), .bool ar2, .int .i64 d, .pointer (some ⟨w.heap.size, 3, none⟩), .bool ac, .int .i64 rt, .pointer (some ⟨w.heap.size, 5, none⟩), .bool ac2, .int .i64 rt])
        have HP0 := Bx.mk (HP1.out.alloc (.cells #[Value.pointer (some ⟨w.heap.size, 2, none⟩), .bool ar, .int .i64 d, .pointer (some ⟨w.heap.size, 4, none⟩), .bool ar2, .int .i64 d, .pointer (some ⟨w.heap.size, 3, none⟩), .bool ac, .int .i64 rt, .pointer (some ⟨w.heap.size, 5, none⟩), .bool ac2, .int .i64 rt] 108))
        have HZ0 := Bx.mk (HZ1.out.alloc (.cells #[Value.pointer (some ⟨w.heap.size, 2, none⟩), .bool ar, .int .i64 d, .pointer (some ⟨w.heap.size, 4, none⟩), .bool ar2, .int .i64 d, .pointer (some ⟨w.heap.size, 3, none⟩), .bool ac, .int .i64 rt, .pointer (some ⟨w.heap.size, 5, none⟩), .bool ac2, .int .i64 rt] 108))
        have HB0 := Bx.mk (HB1.out.alloc (by omega) (.cells #[Value.pointer (some ⟨w.heap.size, 2, none⟩), .bool ar, .int .i64 d, .pointer (some ⟨w.heap.size, 4, none⟩), .bool ar2, .int .i64 d, .pointer (some ⟨w.heap.size, 3, none⟩), .bool ac, .int .i64 rt, .pointer (some ⟨w.heap.size, 5, none⟩), .bool ac2, .int .i64 rt] 108))
        go_loopw [46] (fun i wr => ∃ j : Nat, j ≤ 4 ∧ i = .int .i64 (j : Int) ∧ Row wr w.heap.size 35 (#[Value.string (bstr sh), .int .i64 k, .int .i64 (if 1 ≤ j then n1 else r), .int .i64 (if 3 ≤ j then n3 else c), .int .i64 (if 2 ≤ j then n2 else r2), .int .i64 (if 4 ≤ j then n4 else c2), .bool ar, .bool ac, .bool ar2, .bool ac2]) ∧ Row wr w1.heap.size 108 #[Value.pointer (some ⟨w.heap.size, 2, none⟩), .bool ar, .int .i64 d, .pointer (some ⟨w.heap.size, 4, none⟩), .bool ar2, .int .i64 d, .pointer (some ⟨w.heap.size, 3, none⟩), .bool ac, .int .i64 rt, .pointer (some ⟨w.heap.size, 5, none⟩), .bool ac2, .int .i64 rt] ∧ Row wr (w.heap.size + 1) 35 #[Value.string (bstr []), .int .i64 0, .int .i64 0, .int .i64 0, .int .i64 0, .int .i64 0, .bool false, .bool false, .bool false, .bool false] ∧ Below w.heap.size w wr) (fun i _ => 4 - (intOf i).toNat)
        case atStart => exact ⟨0, by omega, rfl, HP0.out, HS0.out, HZ0.out, HB0.out⟩
        case round =>
          clear HS0 HP0 HZ0 HB0 HP1 HZ1 HB1 pc1 pf1 zc1 zf1
          obtain ⟨j, hj, rfl, hp, hs, hz, hb⟩ := hrel
          have HS := Bx.mk hs; clear hs
          have HZ := Bx.mk hz; clear hz
          have HB := Bx.mk hb; clear hb
          have sc := fun o => HS.out.cell o
          have ls := HS.out.lt
          have hj5 : j = 0 ∨ j = 1 ∨ j = 2 ∨ j = 3 ∨ j = 4 := by omega
          clear hj
          rcases hj5 with rfl | rfl | rfl | rfl | rfl
          · have hP : Row wr w.heap.size 35 #[Value.string (bstr sh), .int .i64 k, .int .i64 r, .int .i64 c, .int .i64 r2, .int .i64 c2, .bool ar, .bool ac, .bool ar2, .bool ac2] := hp
            have HPP := Bx.mk hP; clear hP hp
            have pc := fun o => HPP.out.cell o
            have pf := HPP.out.frozen
            have lp := HPP.out.lt
            cases ar with
            | true =>
              have hn : Bx (n1 = r) := ⟨HN1.out⟩
              go_wp2
              go_roundw
              case rel => exact ⟨1, by omega, by go_num, by show Row _ _ _ #[Value.string (bstr sh), .int .i64 k, .int .i64 n1, .int .i64 c, .int .i64 r2, .int .i64 c2, .bool true, .bool ac, .bool ar2, .bool ac2]; rw [hn.out]; exact HPP.out.alloc _, HS.out.alloc _, HZ.out.alloc _, HB.out.alloc (by omega) _⟩
              case measure => simp [intOf]
            | false =>
              have hn : Bx (n1 = r + d) := ⟨HN1.out⟩
              go_wp2_with fail
              go_region
              go_wp2
              go_roundw
              case rel => exact ⟨1, by omega, by go_num, by show Row _ _ _ #[Value.string (bstr sh), .int .i64 k, .int .i64 n1, .int .i64 c, .int .i64 r2, .int .i64 c2, .bool false, .bool ac, .bool ar2, .bool ac2]; rw [hn.out]; exact ((HPP.out.set 2 _).alloc _).drew, ((HS.out.other (by dsimp only; omega) _).alloc _).drew, ((HZ.out.other (by dsimp only; omega) _).alloc _).drew, ((HB.out.setCell (by dsimp only; omega) _).alloc (by simp [World.setCell]; omega) _).drew⟩
              case measure => simp [intOf]
          · have hP : Row wr w.heap.size 35 #[Value.string (bstr sh), .int .i64 k, .int .i64 n1, .int .i64 c, .int .i64 r2, .int .i64 c2, .bool ar, .bool ac, .bool ar2, .bool ac2] := hp
            have HPP := Bx.mk hP; clear hP hp
            have pc := fun o => HPP.out.cell o
            have pf := HPP.out.frozen
            have lp := HPP.out.lt
            cases ar2 with
            | true =>
              have hn : Bx (n2 = r2) := ⟨HN2.out⟩
              go_wp2
              go_roundw
              case rel => exact ⟨2, by omega, by go_num, by show Row _ _ _ #[Value.string (bstr sh), .int .i64 k, .int .i64 n1, .int .i64 c, .int .i64 n2, .int .i64 c2, .bool ar, .bool ac, .bool true, .bool ac2]; rw [hn.out]; exact HPP.out.alloc _, HS.out.alloc _, HZ.out.alloc _, HB.out.alloc (by omega) _⟩
              case measure => simp [intOf]
            | false =>
              have hn : Bx (n2 = r2 + d) := ⟨HN2.out⟩
              go_wp2_with fail
              go_region
              go_wp2
              go_roundw
              case rel => exact ⟨2, by omega, by go_num, by show Row _ _ _ #[Value.string (bstr sh), .int .i64 k, .int .i64 n1, .int .i64 c, .int .i64 n2, .int .i64 c2, .bool ar, .bool ac, .bool false, .bool ac2]; rw [hn.out]; exact ((HPP.out.set 4 _).alloc _).drew, ((HS.out.other (by dsimp only; omega) _).alloc _).drew, ((HZ.out.other (by dsimp only; omega) _).alloc _).drew, ((HB.out.setCell (by dsimp only; omega) _).alloc (by simp [World.setCell]; omega) _).drew⟩
              case measure => simp [intOf]
          · have hP : Row wr w.heap.size 35 #[Value.string (bstr sh), .int .i64 k, .int .i64 n1, .int .i64 c, .int .i64 n2, .int .i64 c2, .bool ar, .bool ac, .bool ar2, .bool ac2] := hp
            have HPP := Bx.mk hP; clear hP hp
            have pc := fun o => HPP.out.cell o
            have pf := HPP.out.frozen
            have lp := HPP.out.lt
            cases ac with
            | true =>
              have hn : Bx (n3 = c) := ⟨HN3.out⟩
              go_wp2
              go_roundw
              case rel => exact ⟨3, by omega, by go_num, by show Row _ _ _ #[Value.string (bstr sh), .int .i64 k, .int .i64 n1, .int .i64 n3, .int .i64 n2, .int .i64 c2, .bool ar, .bool true, .bool ar2, .bool ac2]; rw [hn.out]; exact HPP.out.alloc _, HS.out.alloc _, HZ.out.alloc _, HB.out.alloc (by omega) _⟩
              case measure => simp [intOf]
            | false =>
              have hn : Bx (n3 = c + rt) := ⟨HN3.out⟩
              go_wp2_with fail
              go_region
              go_wp2
              go_roundw
              case rel => exact ⟨3, by omega, by go_num, by show Row _ _ _ #[Value.string (bstr sh), .int .i64 k, .int .i64 n1, .int .i64 n3, .int .i64 n2, .int .i64 c2, .bool ar, .bool false, .bool ar2, .bool ac2]; rw [hn.out]; exact ((HPP.out.set 3 _).alloc _).drew, ((HS.out.other (by dsimp only; omega) _).alloc _).drew, ((HZ.out.other (by dsimp only; omega) _).alloc _).drew, ((HB.out.setCell (by dsimp only; omega) _).alloc (by simp [World.setCell]; omega) _).drew⟩
              case measure => simp [intOf]
          · have hP : Row wr w.heap.size 35 #[Value.string (bstr sh), .int .i64 k, .int .i64 n1, .int .i64 n3, .int .i64 n2, .int .i64 c2, .bool ar, .bool ac, .bool ar2, .bool ac2] := hp
            have HPP := Bx.mk hP; clear hP hp
            have pc := fun o => HPP.out.cell o
            have pf := HPP.out.frozen
            have lp := HPP.out.lt
            cases ac2 with
            | true =>
              have hn : Bx (n4 = c2) := ⟨HN4.out⟩
              go_wp2
              go_roundw
              case rel => exact ⟨4, by omega, by go_num, by show Row _ _ _ #[Value.string (bstr sh), .int .i64 k, .int .i64 n1, .int .i64 n3, .int .i64 n2, .int .i64 n4, .bool ar, .bool ac, .bool ar2, .bool true]; rw [hn.out]; exact HPP.out.alloc _, HS.out.alloc _, HZ.out.alloc _, HB.out.alloc (by omega) _⟩
              case measure => simp [intOf]
            | false =>
              have hn : Bx (n4 = c2 + rt) := ⟨HN4.out⟩
              go_wp2_with fail
              go_region
              go_wp2
              go_roundw
              case rel => exact ⟨4, by omega, by go_num, by show Row _ _ _ #[Value.string (bstr sh), .int .i64 k, .int .i64 n1, .int .i64 n3, .int .i64 n2, .int .i64 n4, .bool ar, .bool ac, .bool ar2, .bool false]; rw [hn.out]; exact ((HPP.out.set 5 _).alloc _).drew, ((HS.out.other (by dsimp only; omega) _).alloc _).drew, ((HZ.out.other (by dsimp only; omega) _).alloc _).drew, ((HB.out.setCell (by dsimp only; omega) _).alloc (by simp [World.setCell]; omega) _).drew⟩
              case measure => simp [intOf]
          · have hP : Row wr w.heap.size 35 #[Value.string (bstr sh), .int .i64 k, .int .i64 n1, .int .i64 n3, .int .i64 n2, .int .i64 n4, .bool ar, .bool ac, .bool ar2, .bool ac2] := hp
            have HPP := Bx.mk hP; clear hP hp
            have pc := fun o => HPP.out.cell o
            go_wp2_with (first | (go_at_call 100; refine (HM.out _).mono ?_; rintro e w3 ⟨rfl, hb3⟩) | (go_at_call 92; refine (HO.out _).mono ?_; rintro e w4 ⟨rfl, hb4⟩) | (go_at_call 99; refine (HF.out _).mono ?_; rintro e w5 ⟨rfl, hb5⟩; have HB5 := Bx.mk (below_next (below_next (below_next HB.out hb3) hb4) hb5); have HZ5 := Bx.mk (((HZ.out.below hb3 HZ.out.lt).below hb4 (Nat.lt_of_lt_of_le HZ.out.lt hb3.size)).below hb5 (Nat.lt_of_lt_of_le (Nat.lt_of_lt_of_le HZ.out.lt hb3.size) hb4.size)); have zc5 := fun o => HZ5.out.cell o; have zf5 := HZ5.out.frozen))
            exact bodyPost_ret (v := .tuple #[.agg #[Value.string (bstr y0), .int .i64 y1, .int .i64 y2, .int .i64 y3, .int .i64 y4, .int .i64 y5, .bool y6, .bool y7, .bool y8, .bool y9], .int .i64 0]) (by simp [results, Tryz.results44, go_sem, zc5, zf5]) rfl ⟨by rw [HX.out]; rfl, Below.setAllB (by omega) [Value.string (bstr y0), .int .i64 y1, .int .i64 y2, .int .i64 y3, .int .i64 y4, .int .i64 y5, .bool y6, .bool y7, .bool y8, .bool y9] 0 w5 HB5.out⟩
  · have hE' : (E != 0) = true := by simpa using hE
    rw [if_pos hE] at HX
    clear hE HOK HFD HFR
    go_wp2_with (first | (go_at_call 57; refine (HK.out _).mono ?_; rintro e w1 ⟨rfl, hb1⟩; have HP1 := Bx.mk (HP.out.below hb1 (by simp; omega)); have HZ1 := Bx.mk (HZ.out.below hb1 (by simp)); have pc1 := fun o => HP1.out.cell o; have pf1 := HP1.out.frozen; have zc1 := fun o => HZ1.out.cell o; have zf1 := HZ1.out.frozen))
    exact bodyPost_ret (v := .tuple #[.agg #[Value.string { data := #[] }, .int .i64 0, .int .i64 0, .int .i64 0, .int .i64 0, .int .i64 0, .bool false, .bool false, .bool false, .bool false], .int .i64 E]) (by simp [results, Tryz.results44, go_sem, zc1, zf1]) rfl ⟨by rw [HX.out]; rfl, Below.setAllB (by omega) [Value.string { data := #[] }, .int .i64 0, .int .i64 0, .int .i64 0, .int .i64 0, .int .i64 0, .bool false, .bool false, .bool false, .bool false] 0 _ (below_next HB.out hb1)⟩

end Go.Proofs.YtmodjglbjempkaaGreatDoor
namespace Go.Proofs.YtmodjglbjempkaaGreatDoor
open Go.RowKit
open Sym
set_option maxRecDepth 100000 in
theorem blockError_any (b : RfP.Rect) (d r : Int) (w : World) : Calls Tryz.prog 21 #[.agg #[.int .i64 b.r, .int .i64 b.c, .int .i64 b.h, .int .i64 b.w], .int .i64 d, .int .i64 r] w fun e w' => e = .returned (.int .i64 (RfP.blockP b d r)) ∧ Below w.heap.size w w' := by
  obtain ⟨b0, b1, b2, b3⟩ := b
  refine enter env_ok Tryz.func21 rfl Tryz.results21 Tryz.ntmps21 [] [] [.agg [.int .i64 b0, .int .i64 b1, .int .i64 b2, .int .i64 b3], .int .i64 d, .int .i64 r] ⟨⟨trivial, trivial, trivial, trivial, trivial⟩, trivial, trivial, trivial⟩ (Nat.le_of_ble_eq_true rfl) w _ 1000 ?_
  repeat' (first | ((with_reducible first | show wpS _ _ _ _ | show putD _ _ _ _ | show putW _ _ _ _ | show splitG _ _ _ | show wpQ _ _ _ _ _ _ | show wpD _ _ _ _ _ _ _); conv => whnf) | ((with_reducible show RetN _ _ _); refine retB fun β => ?_) | ((with_reducible show _ ∧ _); first | (apply And.intro; (· intro h; exfalso; first | omega | (revert h; decide)); intro _) | (apply And.intro; rotate_left; (· intro h; exfalso; first | omega | (revert h; decide)); intro _) | (refine ⟨fun _ => ?_, fun _ => ?_⟩) | (apply And.intro; · kernel_rfl) | (apply And.intro; · (show inK _ _; unfold inK; omega))) | ((with_reducible show CallN _ _ _ _ _ _ _ _); first | (refine call env_ok rfl (.bool (RfP.farP _)) 1000 (by kernel_rfl) rfl (trivial) (fun β w hm => quiet (lfar_any _ w)) ?_)))
  all_goals simp [RfP.blockP, SV.den, *]
theorem move_any (n by' : Int) (abs : Bool) (w : World) (h : inK .i64 (n + by')) : Calls Tryz.prog 51 #[.int .i64 n, .int .i64 by', .bool abs] w fun e w' => e = .returned (.int .i64 (RfP.mv n by' abs)) ∧ Below w.heap.size w w' := by
  refine enter env_ok Tryz.func51 rfl Tryz.results51 Tryz.ntmps51 [] [] [.int .i64 n, .int .i64 by', .bool abs] ⟨trivial, trivial, trivial, trivial⟩ (Nat.le_of_ble_eq_true rfl) w _ 1000 ?_
  unfold inK at h
  repeat' (first | ((with_reducible first | show wpS _ _ _ _ | show putD _ _ _ _ | show putW _ _ _ _ | show splitG _ _ _ | show wpQ _ _ _ _ _ _ | show wpD _ _ _ _ _ _ _); conv => whnf) | ((with_reducible show RetN _ _ _); refine retB fun β => ?_) | ((with_reducible show _ ∧ _); first | (apply And.intro; (· intro h; exfalso; first | omega | (revert h; decide)); intro _) | (apply And.intro; rotate_left; (· intro h; exfalso; first | omega | (revert h; decide)); intro _) | (refine ⟨fun _ => ?_, fun _ => ?_⟩) | (apply And.intro; · kernel_rfl) | (apply And.intro; · (show inK _ _; unfold inK; omega))) | ((with_reducible show CallN _ _ _ _ _ _ _ _); first | fail))
  all_goals simp [RfP.mv, SV.den, *]
theorem insideB (n : Int) (w : World) : Calls Tryz.prog 52 #[.int .i64 n] w fun e w' => e = .returned (.bool (RfP.permP n)) ∧ Below w.heap.size w w' := by
  rw [← perm_permP]; exact quiet (inside_any n w)
theorem permB (n : Int) (w : World) : Calls Tryz.prog 102 #[.int .i64 n] w fun e w' => e = .returned (.bool (RfP.permP n)) ∧ Below w.heap.size w w' := by
  rw [← perm_permP]; exact quiet (permitted_any n w)
theorem far_bound {n : Int} (h : RfP.farP n = false) : -1073741824 ≤ n ∧ n ≤ 1073741824 := by
  unfold RfP.farP at h; simp at h; omega
theorem block_ok {b : RfP.Rect} {d r : Int} (h : RfP.blockP b d r = 0) : (0 ≤ b.r ∧ b.r < 1073741824) ∧ (0 ≤ b.c ∧ b.c < 1073741824) ∧ (1 ≤ b.h ∧ b.h ≤ 1073741824) ∧ (1 ≤ b.w ∧ b.w ≤ 1073741824) ∧ RfP.farP d = false ∧ RfP.farP r = false := by
  unfold RfP.blockP at h
  split at h
  · omega
  · rename_i hn
    simp only [not_or, Bool.not_eq_true] at hn
    obtain ⟨h1, h2, h3, h4, h5, h6, h7, h8, h9, h10⟩ := hn
    exact ⟨by omega, by omega, by omega, by omega, h9, h10⟩
attribute [local irreducible] RfP.mv RfP.sortedP RfP.permP
set_option maxRecDepth 100000 in
set_option maxHeartbeats 4000000 in
theorem RMoved_any (x : RfP.Ref) (b : RfP.Rect) (d r : Int) (w : World) (h : RfP.checkP x = 0) (hb : RfP.blockP b d r = 0) : Calls Tryz.prog 24 #[.agg (refC x), .agg #[.int .i64 b.r, .int .i64 b.c, .int .i64 b.h, .int .i64 b.w], .int .i64 d, .int .i64 r] w fun e w' => e = .returned (.agg (refC (RfP.moveR x b d r))) ∧ Below w.heap.size w w' := by
  have hx := ref_bounds h
  obtain ⟨q1, q2, q3, q4, hd, hr⟩ := block_ok hb
  have hd := far_bound hd
  have hr := far_bound hr
  clear h hb
  obtain ⟨b0, b1, b2, b3⟩ := b
  obtain ⟨sh, k, rr, c, r2, c2, ar, ac, ar2, ac2⟩ := x
  dsimp only at *
  refine enter env_ok Tryz.func24 rfl Tryz.results24 Tryz.ntmps24 [] [] [.agg [.str sh, .int .i64 k, .int .i64 rr, .int .i64 c, .int .i64 r2, .int .i64 c2, .bool ar, .bool ac, .bool ar2, .bool ac2], .agg [.int .i64 b0, .int .i64 b1, .int .i64 b2, .int .i64 b3], .int .i64 d, .int .i64 r] (by simp [SV.oks, SV.ok]) (Nat.le_of_ble_eq_true rfl) w _ 1000 ?_
  repeat' (first | ((with_reducible first | show wpS _ _ _ _ | show putD _ _ _ _ | show putW _ _ _ _ | show splitG _ _ _ | show wpQ _ _ _ _ _ _ | show wpD _ _ _ _ _ _ _); conv => whnf) | ((with_reducible show RetN _ _ _); refine retB fun β => ?_) | ((with_reducible show _ ∧ _); first | (apply And.intro; (· intro h; exfalso; first | omega | (revert h; decide)); intro _) | (apply And.intro; rotate_left; (· intro h; exfalso; first | omega | (revert h; decide)); intro _) | (refine ⟨fun _ => ?_, fun _ => ?_⟩) | (apply And.intro; · kernel_rfl) | (apply And.intro; · (show inK _ _; unfold inK; omega))) | ((with_reducible show CallN _ _ _ _ _ _ _ _); first | (refine call env_ok rfl (.bool (RfP.permP _)) 1000 (by kernel_rfl) rfl (trivial) (fun β w hm => insideB _ w) ?_)))
  all_goals (unfold RfP.moveR; dsimp only; repeat' split)
  all_goals first | (exfalso; omega) | (simp_all [SV.den, SV.dens, refC, RfP.insideP, RfP.badR]; done) | (simp_all [SV.den, SV.dens, refC, RfP.insideP, RfP.badR]; exfalso; omega)
set_option maxRecDepth 100000 in
set_option maxHeartbeats 4000000 in
theorem RCopied_any (x : RfP.Ref) (d r : Int) (w : World) (h : RfP.checkP x = 0) (hd : RfP.farP d = false) (hr : RfP.farP r = false) : Calls Tryz.prog 20 #[.agg (refC x), .int .i64 d, .int .i64 r] w fun e w' => e = .returned (.agg (refC (RfP.copyR x d r))) ∧ Below w.heap.size w w' := by
  have hx := ref_bounds h
  have hd := far_bound hd
  have hr := far_bound hr
  clear h
  obtain ⟨sh, k, rr, c, r2, c2, ar, ac, ar2, ac2⟩ := x
  dsimp only at *
  have hk : k = 0 ∨ k = 1 ∨ k = 2 ∨ k = 3 ∨ k = 4 := by omega
  refine enter env_ok Tryz.func20 rfl Tryz.results20 Tryz.ntmps20 [] [] [.agg [.str sh, .int .i64 k, .int .i64 rr, .int .i64 c, .int .i64 r2, .int .i64 c2, .bool ar, .bool ac, .bool ar2, .bool ac2], .int .i64 d, .int .i64 r] (by simp [SV.oks, SV.ok]) (Nat.le_of_ble_eq_true rfl) w _ 1000 ?_
  rcases hk with rfl | rfl | rfl | rfl | rfl
  all_goals repeat' (first | ((with_reducible first | show wpS _ _ _ _ | show putD _ _ _ _ | show putW _ _ _ _ | show splitG _ _ _ | show wpQ _ _ _ _ _ _ | show wpD _ _ _ _ _ _ _); conv => whnf) | ((with_reducible show RetN _ _ _); refine retB fun β => ?_) | ((with_reducible show _ ∧ _); first | (apply And.intro; (· intro h; exfalso; first | omega | (revert h; decide)); intro _) | (apply And.intro; rotate_left; (· intro h; exfalso; first | omega | (revert h; decide)); intro _) | (refine ⟨fun _ => ?_, fun _ => ?_⟩) | (apply And.intro; · kernel_rfl) | (apply And.intro; · (show inK _ _; unfold inK; omega))) | ((with_reducible show CallN _ _ _ _ _ _ _ _); first | (refine call env_ok rfl (.bool (RfP.permP _)) 1000 (by kernel_rfl) rfl (trivial) (fun β w hm => insideB _ w) ?_) | (refine call env_ok rfl (.int .i64 (RfP.mv _ _ _)) 1000 (by kernel_rfl) rfl (trivial) (fun β w hm => move_any _ _ _ w (by unfold inK; omega)) ?_) | (refine call env_ok rfl (rS (RfP.sortedP ⟨_, _, _, _, _, _, _, _, _, _⟩)) 1000 (by kernel_rfl) rfl (rS_ok _ _) (fun β w hm => Sorted_any ⟨_, _, _, _, _, _, _, _, _, _⟩ w) ?_)))
  all_goals simp_all [SV.den, SV.dens, refC, RfP.copyR, RfP.addR, RfP.insideP, RfP.badR]
end Go.Proofs.YtmodjglbjempkaaGreatDoor
namespace Go.Proofs.YtmodjglbjempkaaGreatDoor
open Go.RowKit
open Sym
theorem permC (n : Int) (β : Nat → Nat) (w : World) : Calls Tryz.prog 102 #[.int .i64 n] w fun e w' => e = .returned ((SV.prop (0 ≤ n ∧ n < 1073741824) inferInstance).den β) ∧ Below w.heap.size w w' := quiet (permitted_any n w)
theorem insideC (n : Int) (β : Nat → Nat) (w : World) : Calls Tryz.prog 52 #[.int .i64 n] w fun e w' => e = .returned ((SV.prop (0 ≤ n ∧ n < 1073741824) inferInstance).den β) ∧ Below w.heap.size w w' := quiet (inside_any n w)
theorem farC (n : Int) (β : Nat → Nat) (w : World) : Calls Tryz.prog 98 #[.int .i64 n] w fun e w' => e = .returned ((SV.prop (n < -1073741824 ∨ 1073741824 < n) inferInstance).den β) ∧ Below w.heap.size w w' := quiet (far_any n w)
theorem lfarC (n : Int) (β : Nat → Nat) (w : World) : Calls Tryz.prog 17 #[.int .i64 n] w fun e w' => e = .returned ((SV.prop (n < -1073741824 ∨ 1073741824 < n) inferInstance).den β) ∧ Below w.heap.size w w' := quiet (lfar_any n w)
namespace RfP
def movedX (x : Ref) (b : Rect) (d r : Int) : Ref × Int := if checkP x ≠ 0 then (zeroR, checkP x) else if blockP b d r ≠ 0 then (zeroR, 2) else (moveP x b d r, 0)
end RfP
theorem block_int (b : RfP.Rect) (d r : Int) : RfP.blockP b d r = if b.r < 0 ∨ 1073741824 ≤ b.r ∨ b.c < 0 ∨ 1073741824 ≤ b.c ∨ b.h < 1 ∨ 1073741824 < b.h ∨ b.w < 1 ∨ 1073741824 < b.w ∨ (d < -1073741824 ∨ 1073741824 < d) ∨ (r < -1073741824 ∨ 1073741824 < r) then 2 else 0 := by
  unfold RfP.blockP RfP.farP; simp only [decide_eq_true_eq]
attribute [local irreducible] RfP.checkP RfP.fittingP
set_option maxRecDepth 100000 in
set_option maxHeartbeats 4000000 in
theorem Moved_any (x : RfP.Ref) (b : RfP.Rect) (d r : Int) (w : World) : Calls Tryz.prog 47 #[.agg (refC x), .agg #[.int .i64 b.r, .int .i64 b.c, .int .i64 b.h, .int .i64 b.w], .int .i64 d, .int .i64 r] w (RefPost w (RfP.movedX x b d r)) := by
  have hB := block_int b d r
  have HX : RfP.movedX x b d r = if RfP.checkP x ≠ 0 then (RfP.zeroR, RfP.checkP x) else if RfP.blockP b d r ≠ 0 then (RfP.zeroR, 2) else (RfP.moveP x b d r, 0) := rfl
  obtain ⟨b0, b1, b2, b3⟩ := b
  by_cases h : RfP.checkP x = 0
  · have hx := ref_bounds h
    obtain ⟨sh, k, rr, c, r2, c2, ar, ac, ar2, ac2⟩ := x
    dsimp only at *
    refine enter env_ok Tryz.func47 rfl Tryz.results47 Tryz.ntmps47 [] [] [.agg [.str sh, .int .i64 k, .int .i64 rr, .int .i64 c, .int .i64 r2, .int .i64 c2, .bool ar, .bool ac, .bool ar2, .bool ac2], .agg [.int .i64 b0, .int .i64 b1, .int .i64 b2, .int .i64 b3], .int .i64 d, .int .i64 r] (by simp [SV.oks, SV.ok]) (Nat.le_of_ble_eq_true rfl) w _ 1000 ?_
    repeat' (first | ((with_reducible first | show wpS _ _ _ _ | show putD _ _ _ _ | show putW _ _ _ _ | show splitG _ _ _ | show wpQ _ _ _ _ _ _ | show wpD _ _ _ _ _ _ _); conv => whnf) | ((with_reducible show RetN _ _ _); refine retB fun β => ?_) | ((with_reducible show _ ∧ _); first | (apply And.intro; (· intro h; exfalso; first | omega | (revert h; decide)); intro _) | (apply And.intro; rotate_left; (· intro h; exfalso; first | omega | (revert h; decide)); intro _) | (refine ⟨fun _ => ?_, fun _ => ?_⟩) | (apply And.intro; · kernel_rfl) | (apply And.intro; · (show inK _ _; unfold inK; omega))) | ((with_reducible show CallN _ _ _ _ _ _ _ _); first | (refine call env_ok rfl (.prop (0 ≤ _ ∧ _ < 1073741824) inferInstance) 1000 (by kernel_rfl) rfl (trivial) (fun β w hm => permC _ β w) ?_) | (refine call env_ok rfl (.prop (_ < -1073741824 ∨ 1073741824 < _) inferInstance) 1000 (by kernel_rfl) rfl (trivial) (fun β w hm => farC _ β w) ?_) | (refine call env_ok rfl (.int .i64 (RfP.checkP ⟨_, _, _, _, _, _, _, _, _, _⟩)) 1000 (by kernel_rfl) rfl (trivial) (fun β w hm => Check_any ⟨_, _, _, _, _, _, _, _, _, _⟩ w) ?_) | (refine call env_ok rfl (rS (RfP.fittingP ⟨_, _, _, _, _, _, _, _, _, _⟩)) 1000 (by kernel_rfl) rfl (rS_ok _ _) (fun β w hm => fitting_any ⟨_, _, _, _, _, _, _, _, _, _⟩ w) ?_)))
    all_goals by_cases hD : (b0 < 0 ∨ 1073741824 ≤ b0 ∨ b1 < 0 ∨ 1073741824 ≤ b1 ∨ b2 < 1 ∨ 1073741824 < b2 ∨ b3 < 1 ∨ 1073741824 < b3 ∨ (d < -1073741824 ∨ 1073741824 < d) ∨ (r < -1073741824 ∨ 1073741824 < r))
    all_goals first | (exfalso; omega) | skip
    all_goals first | (rw [if_pos hD] at hB; rw [HX, if_neg (fun e => e h), if_pos (by rw [hB]; decide)]; rfl) | (rw [if_neg hD] at hB; rw [HX, if_neg (fun e => e h), if_neg (by rw [hB]; simp)])
    all_goals (unfold RfP.moveP; dsimp only; repeat' split)
    all_goals first | rfl | (exfalso; omega)
  · refine enter env_ok Tryz.func47 rfl Tryz.results47 Tryz.ntmps47 [] [] [rS x, .agg [.int .i64 b0, .int .i64 b1, .int .i64 b2, .int .i64 b3], .int .i64 d, .int .i64 r] (by simp [SV.oks, SV.ok]) (Nat.le_of_ble_eq_true rfl) w _ 1000 ?_
    repeat' (first | ((with_reducible first | show wpS _ _ _ _ | show putD _ _ _ _ | show putW _ _ _ _ | show splitG _ _ _ | show wpQ _ _ _ _ _ _ | show wpD _ _ _ _ _ _ _); conv => whnf) | ((with_reducible show RetN _ _ _); refine retB fun β => ?_) | ((with_reducible show _ ∧ _); first | (apply And.intro; (· intro h; exfalso; first | omega | (revert h; decide)); intro _) | (apply And.intro; rotate_left; (· intro h; exfalso; first | omega | (revert h; decide)); intro _) | (refine ⟨fun _ => ?_, fun _ => ?_⟩) | (apply And.intro; · kernel_rfl) | (apply And.intro; · (show inK _ _; unfold inK; omega))) | ((with_reducible show CallN _ _ _ _ _ _ _ _); first | (refine call env_ok rfl (.int .i64 (RfP.checkP x)) 1000 (by kernel_rfl) rfl (trivial) (fun β w hm => Check_any x w) ?_)))
    rw [HX, if_pos h]; rfl
end Go.Proofs.YtmodjglbjempkaaGreatDoor
