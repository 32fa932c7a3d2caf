/- References: the walks of meaning, ordered, name and Check. -/
import Derived.Test.YtmodjglbjempkaaGreatDoorHWa
set_option linter.unusedSimpArgs false
set_option linter.unusedVariables false
namespace Go.Proofs.YtmodjglbjempkaaGreatDoor
open Go.RowKit
def refC (x : RfP.Ref) : Array Value := #[.string (bstr x.sh), .int .i64 x.k, .int .i64 x.r, .int .i64 x.c, .int .i64 x.r2, .int .i64 x.c2, .bool x.ar, .bool x.ac, .bool x.ar2, .bool x.ac2]
theorem below2 (w : World) (o p : Obj) : Below w.heap.size w ((w.alloc o).alloc p) := ((Below.refl _ _).alloc (Nat.le_refl _) _).alloc (by simp) _
set_option maxRecDepth 100000 in
theorem meaning_any (x : RfP.Ref) (w : World) : Calls Tryz.prog 100 #[.agg (refC x)] w fun e w' => e = .returned (.agg (refC (RfP.meaningP x))) ∧ Below w.heap.size w w' := by
  have H := Bx.mk (show RfP.meaningP x = if x.k = 0 then { x with r2 := 0, c2 := 0, ar2 := false, ac2 := false } else if x.k = 2 then { x with c := 0, c2 := 0, ac := false, ac2 := false } else if x.k = 3 then { x with r := 0, r2 := 0, ar := false, ar2 := false } else if x.k = 4 then RfP.badR else x from rfl)
  obtain ⟨sh, k, r, c, r2, c2, ar, ac, ar2, ac2⟩ := x
  dsimp only at H
  unfold refC
  dsimp only
  by_cases h0 : k = 0
  · subst h0
    rw [if_pos rfl] at H
    go_enter Tryz.func100, Tryz.ntmps100
    go_wp2
    exact bodyPost_ret (v := .agg #[.string (bstr sh), .int .i64 0, .int .i64 r, .int .i64 c, .int .i64 0, .int .i64 0, .bool ar, .bool ac, .bool false, .bool false]) (by simp [results, Tryz.results100, go_sem]) rfl ⟨by rw [H.out], below2 _ _ _⟩
  rw [if_neg h0] at H
  by_cases h2 : k = 2
  · subst h2; clear h0
    rw [if_pos rfl] at H
    go_enter Tryz.func100, Tryz.ntmps100
    go_wp2
    exact bodyPost_ret (v := .agg #[.string (bstr sh), .int .i64 2, .int .i64 r, .int .i64 0, .int .i64 r2, .int .i64 0, .bool ar, .bool false, .bool ar2, .bool false]) (by simp [results, Tryz.results100, go_sem]) rfl ⟨by rw [H.out], below2 _ _ _⟩
  rw [if_neg h2] at H
  by_cases h3 : k = 3
  · subst h3; clear h0 h2
    rw [if_pos rfl] at H
    go_enter Tryz.func100, Tryz.ntmps100
    go_wp2
    exact bodyPost_ret (v := .agg #[.string (bstr sh), .int .i64 3, .int .i64 0, .int .i64 c, .int .i64 0, .int .i64 c2, .bool false, .bool ac, .bool false, .bool ac2]) (by simp [results, Tryz.results100, go_sem]) rfl ⟨by rw [H.out], below2 _ _ _⟩
  rw [if_neg h3] at H
  by_cases h4 : k = 4
  · subst h4; clear h0 h2 h3
    rw [if_pos rfl] at H
    go_enter Tryz.func100, Tryz.ntmps100
    go_wp2
    exact bodyPost_ret (v := .agg #[.string { data := #[] }, .int .i64 4, .int .i64 0, .int .i64 0, .int .i64 0, .int .i64 0, .bool false, .bool false, .bool false, .bool false]) (by simp [results, Tryz.results100, go_sem]) rfl ⟨by rw [H.out]; rfl, below2 _ _ _⟩
  · rw [if_neg h4] at H
    have e0 : (k == 0) = false := beq_eq_false_iff_ne.2 h0
    have e2 : (k == 2) = false := beq_eq_false_iff_ne.2 h2
    have e3 : (k == 3) = false := beq_eq_false_iff_ne.2 h3
    have e4 : (k == 4) = false := beq_eq_false_iff_ne.2 h4
    clear h0 h2 h3 h4
    go_enter Tryz.func100, Tryz.ntmps100
    go_wp2
    exact bodyPost_ret (v := .agg #[.string (bstr sh), .int .i64 k, .int .i64 r, .int .i64 c, .int .i64 r2, .int .i64 c2, .bool ar, .bool ac, .bool ar2, .bool ac2]) (by simp [results, Tryz.results100, go_sem]) rfl ⟨by rw [H.out], below2 _ _ _⟩
theorem ordered_same (x : RfP.Ref) (w : World) (hk : (x.k == 0) = false) (h1 : ¬ x.r2 < x.r) (h2 : ¬ x.c2 < x.c) : Calls Tryz.prog 92 #[.agg (refC x)] w fun e w' => e = .returned (.agg (refC x)) ∧ Below w.heap.size w w' := by
  obtain ⟨sh, k, r, c, r2, c2, ar, ac, ar2, ac2⟩ := x
  unfold refC
  dsimp only at *
  go_enter Tryz.func92, Tryz.ntmps92
  go_wp2
  exact bodyPost_ret (v := .agg #[.string (bstr sh), .int .i64 k, .int .i64 r, .int .i64 c, .int .i64 r2, .int .i64 c2, .bool ar, .bool ac, .bool ar2, .bool ac2]) (by simp [results, Tryz.results92, go_sem]) rfl ⟨rfl, below2 _ _ _⟩
theorem ordered_row (x : RfP.Ref) (w : World) (hk : (x.k == 0) = false) (h1 : x.r2 < x.r) (h2 : ¬ x.c2 < x.c) : Calls Tryz.prog 92 #[.agg (refC x)] w fun e w' => e = .returned (.agg (refC { x with r := x.r2, r2 := x.r, ar := x.ar2, ar2 := x.ar })) ∧ Below w.heap.size w w' := by
  obtain ⟨sh, k, r, c, r2, c2, ar, ac, ar2, ac2⟩ := x
  unfold refC
  dsimp only at *
  go_enter Tryz.func92, Tryz.ntmps92
  go_wp2
  exact bodyPost_ret (v := .agg #[.string (bstr sh), .int .i64 k, .int .i64 r2, .int .i64 c, .int .i64 r, .int .i64 c2, .bool ar2, .bool ac, .bool ar, .bool ac2]) (by simp [results, Tryz.results92, go_sem]) rfl ⟨rfl, below2 _ _ _⟩
theorem ordered_col (x : RfP.Ref) (w : World) (hk : (x.k == 0) = false) (h1 : ¬ x.r2 < x.r) (h2 : x.c2 < x.c) : Calls Tryz.prog 92 #[.agg (refC x)] w fun e w' => e = .returned (.agg (refC { x with c := x.c2, c2 := x.c, ac := x.ac2, ac2 := x.ac })) ∧ Below w.heap.size w w' := by
  obtain ⟨sh, k, r, c, r2, c2, ar, ac, ar2, ac2⟩ := x
  unfold refC
  dsimp only at *
  go_enter Tryz.func92, Tryz.ntmps92
  go_wp2
  exact bodyPost_ret (v := .agg #[.string (bstr sh), .int .i64 k, .int .i64 r, .int .i64 c2, .int .i64 r2, .int .i64 c, .bool ar, .bool ac2, .bool ar2, .bool ac]) (by simp [results, Tryz.results92, go_sem]) rfl ⟨rfl, below2 _ _ _⟩
theorem ordered_both (x : RfP.Ref) (w : World) (hk : (x.k == 0) = false) (h1 : x.r2 < x.r) (h2 : x.c2 < x.c) : Calls Tryz.prog 92 #[.agg (refC x)] w fun e w' => e = .returned (.agg (refC { x with r := x.r2, r2 := x.r, ar := x.ar2, ar2 := x.ar, c := x.c2, c2 := x.c, ac := x.ac2, ac2 := x.ac })) ∧ Below w.heap.size w w' := by
  obtain ⟨sh, k, r, c, r2, c2, ar, ac, ar2, ac2⟩ := x
  unfold refC
  dsimp only at *
  go_enter Tryz.func92, Tryz.ntmps92
  go_wp2
  exact bodyPost_ret (v := .agg #[.string (bstr sh), .int .i64 k, .int .i64 r2, .int .i64 c2, .int .i64 r, .int .i64 c, .bool ar2, .bool ac2, .bool ar, .bool ac]) (by simp [results, Tryz.results92, go_sem]) rfl ⟨rfl, below2 _ _ _⟩
theorem ordered_cell (x : RfP.Ref) (w : World) (hk : x.k = 0) : Calls Tryz.prog 92 #[.agg (refC x)] w fun e w' => e = .returned (.agg (refC x)) ∧ Below w.heap.size w w' := by
  obtain ⟨sh, k, r, c, r2, c2, ar, ac, ar2, ac2⟩ := x
  unfold refC
  dsimp only at *
  subst hk
  go_enter Tryz.func92, Tryz.ntmps92
  go_wp2
  exact bodyPost_ret (v := .agg #[.string (bstr sh), .int .i64 0, .int .i64 r, .int .i64 c, .int .i64 r2, .int .i64 c2, .bool ar, .bool ac, .bool ar2, .bool ac2]) (by simp [results, Tryz.results92, go_sem]) rfl ⟨rfl, below2 _ _ _⟩
theorem ordered_any (x : RfP.Ref) (w : World) : Calls Tryz.prog 92 #[.agg (refC x)] w fun e w' => e = .returned (.agg (refC (RfP.orderedP x))) ∧ Below w.heap.size w w' := by
  unfold RfP.orderedP
  by_cases h0 : x.k = 0
  · rw [if_pos h0]; exact ordered_cell x w h0
  · rw [if_neg h0]
    have e0 : (x.k == 0) = false := beq_eq_false_iff_ne.2 h0
    by_cases h1 : x.r2 < x.r <;> by_cases h2 : x.c2 < x.c <;> simp only [h1, h2, if_true, if_false]
    · exact ordered_both x w e0 h1 h2
    · exact ordered_row x w e0 h1 h2
    · exact ordered_col x w e0 h1 h2
    · exact ordered_same x w e0 h1 h2
set_option maxRecDepth 100000 in
theorem name_any (s : List UInt8) (w : World) : Calls Tryz.prog 109 #[.string (bstr s)] w fun e w' => e = .returned (.int .i64 (RfP.nameP s)) ∧ w = w' := by
  have hsz := bstr_size s
  have H := Bx.mk (show RfP.nameP s = if 200 < s.length then 3 else if s.all RfP.printC = false then 9 else 0 from rfl)
  by_cases h200 : 200 < s.length
  · rw [if_pos h200] at H
    go_enter Tryz.func109, Tryz.ntmps109
    go_wp2
    go_ret
    exact ⟨by rw [H.out]; rfl, rfl⟩
  rw [if_neg h200] at H
  go_enter Tryz.func109, Tryz.ntmps109
  go_wp2
  go_loop [9] (fun i => ∃ k : Nat, k ≤ s.length ∧ i = .int .i64 (k : Int) ∧ ∀ c ∈ s.take k, RfP.printC c = true) (fun i => s.length - (intOf i).toNat)
  case atStart => exact ⟨0, Nat.zero_le _, rfl, by simp⟩
  case round =>
    obtain ⟨k, hk, rfl, hal⟩ := hrel
    have HAL := Bx.mk hal; clear hal
    by_cases hlt : k < s.length
    · have HN := Bx.mk (take_next0 s k hlt)
      have hat := bstr_at s k (by rw [hsz]; exact hlt)
      have HM := Bx.mk (mem_getD s k hlt)
      generalize s.getD k 0 = c at *
      by_cases hc : 32 ≤ c.toNat ∧ c.toNat ≤ 126
      · have HC := Bx.mk (show RfP.printC c = true by unfold RfP.printC; simp [UInt8.le_iff_toNat_le]; exact hc)
        obtain ⟨hc1, hc2⟩ := hc
        go_wp2
        go_round
        case rel =>
          refine ⟨k + 1, by omega, by go_num, fun d hd => ?_⟩
          rw [HN.out] at hd
          rcases List.mem_append.1 hd with h | h
          · exact HAL.out d h
          · obtain rfl : d = c := by simpa using h
            exact HC.out
        case measure => simp [intOf]; omega
      · have hno : s.all RfP.printC = false := by
          rw [List.all_eq_false]
          exact ⟨c, HM.out, by unfold RfP.printC; simp [UInt8.le_iff_toNat_le]; omega⟩
        rw [if_pos hno] at H
        clear hno
        by_cases h1 : 32 ≤ c.toNat
        · have h2 : 126 < c.toNat := by omega
          clear hc
          go_wp2
          go_ret
          exact ⟨by rw [H.out]; rfl, rfl⟩
        · clear hc
          go_wp2
          go_ret
          exact ⟨by rw [H.out]; rfl, rfl⟩
    · obtain rfl : k = s.length := by omega
      rw [List.take_length] at *
      have hall : s.all RfP.printC = true := by rw [List.all_eq_true]; exact HAL.out
      rw [if_neg (by simp [hall])] at H
      clear hall
      go_wp2
      go_ret
      exact ⟨by rw [H.out]; rfl, rfl⟩
end Go.Proofs.YtmodjglbjempkaaGreatDoor
