/- The walk of the reference's numberOf. -/
import Derived.Test.YtefklhjjhcobmaaDoorSqR1
namespace Go.Proofs.YtefklhjjhcobmaaDoor
open Go.RowKit
theorem numL_lt (l : List Nat) (h : ∀ b ∈ l, b < 2) : SqP.numL l < 2 ^ l.length := by
  have key : ∀ (l : List Nat) (n k : Nat), (∀ b ∈ l, b < 2) → n < 2 ^ k → l.foldl (fun n b => 2 * n + b) n < 2 ^ (k + l.length) := by
    intro l
    induction l with
    | nil => intro n k _ hn; simpa using hn
    | cons b l ih =>
      intro n k hb hn
      have hb0 := hb b (by simp)
      have := ih (2 * n + b) (k + 1) (fun x hx => hb x (by simp [hx])) (by rw [Nat.pow_succ]; omega)
      simp only [List.foldl_cons, List.length_cons]
      rwa [show k + (l.length + 1) = k + 1 + l.length from by omega]
  have := key l 0 0 h (by simp)
  simpa [SqP.numL] using this
set_option maxRecDepth 100000 in
set_option maxHeartbeats 1000000 in
theorem numberOf_any (l : List Nat) (g o cap : Nat) (w : World) (hl : l.length ≤ 32) (hb : ∀ b ∈ l, b < 2) (hc : ∀ j, j < l.length → w.cell? ⟨g, o + j, none⟩ = some (.int .i64 ((l.getD j 0 : Nat) : Int))) :
    Calls Tryd.prog 21 #[.slice (some ⟨g, o, none⟩) l.length cap] w fun e w' => e = .returned (.int .i64 (SqP.numL l : Int)) ∧ w = w' := by
  have HC := Bx.mk hc; clear hc
  have HB := Bx.mk hb; clear hb
  go_enter Tryd.func21, Tryd.ntmps21
  go_wp2
  go_loop [3, 8] (fun n c => ∃ k : Nat, k ≤ l.length ∧ c = .int .i64 k ∧ n = .int .i64 (SqP.numL (l.take k) : Int)) (fun _ c => l.length - (intOf c).toNat)
  case atStart => exact ⟨0, by omega, rfl, rfl⟩
  case round =>
    obtain ⟨k, hk, rfl, rfl⟩ := hrel
    have h1 := numL_lt (l.take k) (fun b hb => HB.out b (List.mem_of_mem_take hb))
    have h2 : SqP.numL (l.take k) < 4294967296 := by
      refine Nat.lt_of_lt_of_le h1 ?_
      refine Nat.le_trans (Nat.pow_le_pow_right (n := 2) (by omega) (show (l.take k).length ≤ 32 from ?_)) (by decide)
      have := List.length_take_le' k l
      omega
    clear h1
    by_cases hlt : k < l.length
    · have hd : decide ((k : Int) < (l.length : Int)) = true := by simp; omega
      have hcell := HC.out k hlt
      have hbl : l.getD k 0 < 2 := HB.out _ (by rw [List.getD_eq_getElem?_getD, List.getElem?_eq_getElem hlt]; exact List.getElem_mem hlt)
      have HN := Bx.mk (show SqP.numL (l.take (k + 1)) = 2 * SqP.numL (l.take k) + l.getD k 0 by
        rw [List.take_succ_eq_append_getElem hlt, SqP.numL_snoc, List.getD_eq_getElem?_getD, List.getElem?_eq_getElem hlt]; rfl)
      generalize l.getD k 0 = y at *
      generalize SqP.numL (l.take k) = x at *
      go_wp2
      go_round
      case rel => exact ⟨k + 1, by omega, by go_num, by rw [HN.out]; go_num⟩
      case measure => simp [intOf]; omega
    · have hd : decide ((k : Int) < (l.length : Int)) = false := by simp; omega
      have HK := Bx.mk (show l.take k = l from List.take_of_length_le (by omega))
      go_wp2
      go_ret
      exact ⟨by rw [← HK.out]; rw [HK.out]; show Ending.returned (Value.int .i64 (SqP.numL (l.take k) : Int)) = _; rw [HK.out], rfl⟩
end Go.Proofs.YtefklhjjhcobmaaDoor
