/- References: the walk of values. -/
import Derived.Test.YtmodjglbjempkaaGreatDoorHRfW6
import Derived.Test.YtmodjglbjempkaaGreatDoorHRfW8
import Derived.Lib.AtoiErrMem
set_option linter.unusedSimpArgs false
set_option linter.unusedVariables false
namespace Go.Proofs.YtmodjglbjempkaaGreatDoor
open Go.RowKit
theorem decFrom_num : ∀ (s : List UInt8) (n : Nat), (∀ c ∈ s, RfP.isDigit c = true) → Lib.decFrom n s = some (s.foldl (fun n c => 10 * n + (c.toNat - 48)) n)
  | [], _, _ => rfl
  | c :: r, n, h => by
    have hc := h c (by simp)
    unfold RfP.isDigit at hc
    simp only [Bool.and_eq_true, decide_eq_true_eq, UInt8.le_iff_toNat_le] at hc
    have hv : Lib.digitVal c = some (c.toNat - 48) := by
      unfold Lib.digitVal; rw [if_pos (by simpa using hc)]
    rw [Lib.decFrom, hv]
    dsimp only
    rw [decFrom_num r _ (fun d hd => h d (by simp [hd])), List.foldl_cons, Nat.mul_comm n 10]
theorem atoi_num (s : List UInt8) (h0 : s ≠ []) (h : ∀ c ∈ s, RfP.isDigit c = true) : Lib.atoi s = some (RfP.numD s : Int) := by
  cases s with
  | nil => exact absurd rfl h0
  | cons c r =>
    have hc := h c (by simp)
    unfold RfP.isDigit at hc
    simp only [Bool.and_eq_true, decide_eq_true_eq, UInt8.le_iff_toNat_le] at hc
    have h45 : (c == 45) = false := by rw [beq_eq_false_iff_ne]; intro e; rw [e] at hc; simp at hc
    have h43 : (c == 43) = false := by rw [beq_eq_false_iff_ne]; intro e; rw [e] at hc; simp at hc
    have e : Lib.decNat (c :: r) = some (RfP.numD (c :: r)) := by
      unfold Lib.decNat; rw [decFrom_num _ _ h]; rfl
    simp [Lib.atoi, h45, h43, e]
theorem atoi_any (s : List UInt8) (w : World) (h0 : s ≠ []) (hl : s.length ≤ 18) (h : ∀ c ∈ s, RfP.isDigit c = true) : Calls Tryz.prog 127 #[.string (bstr s)] w fun e w' => e = .returned (.tuple #[.int .i64 (RfP.numD s : Int), .nilIface]) ∧ Below w.heap.size w w' := by
  refine (Tryz.strconv_Atoi (bstr s) _ (by rw [bstr_size]; exact hl) (atoi_num s h0 h) w).mono ?_
  rintro e w' ⟨h, t, rfl⟩
  exact ⟨h, Lib.bytesWorld_below _ _ _⟩
set_option maxRecDepth 100000 in
set_option maxHeartbeats 1000000 in
theorem values_any (c : RfP.Cor) (w : World) (hg : RfP.Good c) : Calls Tryz.prog 91 #[.agg (corC c)] w fun e w' => e = .returned (.tuple #[.int .i64 (RfP.valuesP c).1, .int .i64 (RfP.valuesP c).2.1, .int .i64 (RfP.valuesP c).2.2]) ∧ Below w.heap.size w w' := by
  have H := Bx.mk (show RfP.valuesP c = if (c.L ≠ [] ∧ 1073741824 < RfP.val26 c.L) ∨ 1073741824 ≤ RfP.rowOf c then (0, 0, 2) else (RfP.rowOf c, (if c.L = [] then 0 else (RfP.val26 c.L : Int) - 1), 0) from rfl)
  have HR := Bx.mk (show RfP.rowOf c = if c.D = [] then 0 else (RfP.numD c.D : Int) - 1 from rfl)
  obtain ⟨h1, h2, h3, h4⟩ := hg
  obtain ⟨L, D, ac, ar⟩ := c
  unfold corC
  dsimp only at *
  have hlt := RfP.numD_lt D h2
  have h10 : 10 ^ D.length ≤ 10 ^ 10 := Nat.pow_le_pow_right (by omega) h4
  have hn : RfP.numD D < 10000000000 := by omega
  clear hlt h10
  have HA := fun w h0 => atoi_any D w h0 (by omega) h2
  have hL0 : (bstr L).toList.isEmpty = L.isEmpty := bstr_emp L
  have hD0 : (bstr D).toList.isEmpty = D.isEmpty := bstr_emp D
  have HA' := Bx.mk HA; clear HA
  have HL : L ≠ [] → Bx (RfP.colS L = if 1073741824 < RfP.val26 L then (0, 2) else ((RfP.val26 L : Int) - 1, 0)) := fun h0 => ⟨by
    unfold RfP.colS; rw [if_neg (by simp [h0, h1]; omega)]⟩
  have HLL := Bx.mk HL; clear HL h1 h2 h3 h4
  have hbel := (Below.refl w.heap.size w).alloc (Nat.le_refl _) (.cells #[Value.string (bstr L), Value.string (bstr D), Value.bool ac, Value.bool ar] 101)
  have HB := Bx.mk hbel; clear hbel
  by_cases hD : D = []
  · have hDe : (!D.isEmpty) = false := by rw [hD]; rfl
    rw [if_pos hD] at HR
    rw [HR.out] at H
    clear hD
    by_cases hL : L = []
    · have hLe : (!L.isEmpty) = false := by rw [hL]; rfl
      rw [if_neg (by simp [hL]), if_pos hL] at H
      clear hL
      go_enter Tryz.func91, Tryz.ntmps91
      go_wp2
      go_ret3
      exact ⟨by rw [H.out]; rfl, HB.out⟩
    · have hLe : (!L.isEmpty) = true := by simpa using hL
      have hcs := (HLL.out hL).out
      by_cases hbig : 1073741824 < RfP.val26 L
      · rw [if_pos (Or.inl ⟨hL, hbig⟩)] at H
        rw [if_pos hbig] at hcs
        have HCS := Bx.mk hcs; clear hcs hbig hL
        go_enter Tryz.func91, Tryz.ntmps91
        go_wp2_with (first | (go_at_call 128; refine (Column_any L _).mono ?_; rw [HCS.out]; rintro e w' ⟨rfl, rfl⟩))
        go_ret3
        exact ⟨by rw [H.out]; rfl, HB.out⟩
      · rw [if_neg (by simp [hbig]), if_neg hL] at H
        rw [if_neg hbig] at hcs
        have HCS := Bx.mk hcs; clear hcs hL
        go_enter Tryz.func91, Tryz.ntmps91
        go_wp2_with (first | (go_at_call 128; refine (Column_any L _).mono ?_; rw [HCS.out]; rintro e w' ⟨rfl, rfl⟩))
        go_ret3
        exact ⟨by rw [H.out]; rfl, HB.out⟩
  · have hDe : (!D.isEmpty) = true := by simpa using hD
    rw [if_neg hD] at HR
    rw [HR.out] at H
    have HD := Bx.mk hD; clear hD
    by_cases hL : L = []
    · have hLe : (!L.isEmpty) = false := by rw [hL]; rfl
      by_cases hbig : 1073741824 ≤ (RfP.numD D : Int) - 1
      · rw [if_pos (Or.inr hbig)] at H
        clear hL
        go_enter Tryz.func91, Tryz.ntmps91
        go_wp2_with (first | (go_at_call 127; refine (HA'.out _ HD.out).mono ?_; rintro e w' ⟨rfl, hb⟩; have hc := fun o => hb.cell (p := ⟨w.heap.size, o, none⟩) (by simp)))
        go_ret3
        exact ⟨by rw [H.out]; rfl, HB.out.trans (hb.mono HB.out.size)⟩
      · rw [if_neg (by simp [hbig, hL]), if_pos hL] at H
        clear hL
        go_enter Tryz.func91, Tryz.ntmps91
        go_wp2_with (first | (go_at_call 127; refine (HA'.out _ HD.out).mono ?_; rintro e w' ⟨rfl, hb⟩; have hc := fun o => hb.cell (p := ⟨w.heap.size, o, none⟩) (by simp)))
        go_ret3
        exact ⟨by rw [H.out]; rfl, HB.out.trans (hb.mono HB.out.size)⟩
    · have hLe : (!L.isEmpty) = true := by simpa using hL
      have hcs := (HLL.out hL).out
      by_cases hbig : 1073741824 < RfP.val26 L
      · rw [if_pos (Or.inl ⟨hL, hbig⟩)] at H
        rw [if_pos hbig] at hcs
        have HCS := Bx.mk hcs; clear hcs hbig hL
        go_enter Tryz.func91, Tryz.ntmps91
        go_wp2_with (first | (go_at_call 127; refine (HA'.out _ HD.out).mono ?_; rintro e w' ⟨rfl, hb⟩; have hc := fun o => hb.cell (p := ⟨w.heap.size, o, none⟩) (by simp)) | (go_at_call 128; refine (Column_any L _).mono ?_; rw [HCS.out]; rintro e w' ⟨rfl, rfl⟩))
        go_ret3
        exact ⟨by rw [H.out]; rfl, HB.out.trans (hb.mono HB.out.size)⟩
      · by_cases hbig2 : 1073741824 ≤ (RfP.numD D : Int) - 1
        · rw [if_pos (Or.inr hbig2)] at H
          rw [if_neg hbig] at hcs
          have HCS := Bx.mk hcs; clear hcs hL
          go_enter Tryz.func91, Tryz.ntmps91
          go_wp2_with (first | (go_at_call 127; refine (HA'.out _ HD.out).mono ?_; rintro e w' ⟨rfl, hb⟩; have hc := fun o => hb.cell (p := ⟨w.heap.size, o, none⟩) (by simp)) | (go_at_call 128; refine (Column_any L _).mono ?_; rw [HCS.out]; rintro e w' ⟨rfl, rfl⟩))
          go_ret3
          exact ⟨by rw [H.out]; rfl, HB.out.trans (hb.mono HB.out.size)⟩
        · rw [if_neg (by simp [hbig2, hbig]), if_neg hL] at H
          rw [if_neg hbig] at hcs
          have HCS := Bx.mk hcs; clear hcs hL
          go_enter Tryz.func91, Tryz.ntmps91
          go_wp2_with (first | (go_at_call 127; refine (HA'.out _ HD.out).mono ?_; rintro e w' ⟨rfl, hb⟩; have hc := fun o => hb.cell (p := ⟨w.heap.size, o, none⟩) (by simp)) | (go_at_call 128; refine (Column_any L _).mono ?_; rw [HCS.out]; rintro e w' ⟨rfl, rfl⟩))
          go_ret3
          exact ⟨by rw [H.out]; rfl, HB.out.trans (hb.mono HB.out.size)⟩
end Go.Proofs.YtmodjglbjempkaaGreatDoor
