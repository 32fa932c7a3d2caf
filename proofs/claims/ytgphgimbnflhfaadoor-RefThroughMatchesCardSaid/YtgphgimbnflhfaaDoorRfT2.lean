/- References: where a row comes to lie, by the reckoning walk. -/
import Derived.Test.YtgphgimbnflhfaaDoorRfT1
set_option linter.unusedSimpArgs false
set_option linter.unusedVariables false
namespace Go.Proofs.YtgphgimbnflhfaaDoor
open Go.RowKit
open Sym
def sumN : List RfP.Step → Int
  | [] => 0
  | s :: r => s.2 + sumN r
theorem ax_sum : ∀ (r : List RfP.Step) (p : Option RfP.Step) (O W : Int), RfP.axErr p r O W = 0 → O + W + sumN r ≤ 4294967294
  | [], p, O, W, h => by
    unfold RfP.axErr at h
    unfold sumN
    by_cases e : 2147483647 < O ∨ 2147483647 < W
    · rw [if_pos e] at h; omega
    · omega
  | s :: r, p, O, W, h => by
    have hs := (RfP.axErr_ok (s :: r) p O W h s (by simp)).1
    unfold RfP.okS at hs
    unfold RfP.axErr at h
    by_cases e : RfP.stepErr p s ≠ 0
    · rw [if_pos e] at h; exact absurd h e
    · rw [if_neg e] at h
      have := ax_sum r _ _ _ h
      unfold sumN
      split at this <;> split at this <;> omega
theorem sumN_nonneg : ∀ (r : List RfP.Step), (∀ s ∈ r, RfP.okS s) → (r.length : Int) ≤ sumN r
  | [], _ => by simp [sumN]
  | s :: r, h => by
    have h1 := h s (by simp)
    unfold RfP.okS at h1
    have h2 := sumN_nonneg r (fun t ht => h t (by simp [ht]))
    unfold sumN
    simp only [List.length_cons]
    omega
/-- a change without an error -/
structure OKL (L : List RfP.Step) : Prop where
  ok : ∀ s ∈ L, RfP.okS s ∧ s.2 ≤ 2147483647
  sum : sumN L ≤ 4294967294
theorem okl_of {L : List RfP.Step} (h : RfP.axErr none L 0 0 = 0) : OKL L := ⟨RfP.axErr_ok L none 0 0 h, by have := ax_sum L none 0 0 h; omega⟩
theorem OKL.len {L : List RfP.Step} (h : OKL L) : L.length ≤ 4294967294 := by
  have := sumN_nonneg L (fun s hs => (h.ok s hs).1)
  have := h.sum
  omega
theorem OKL.step {L : List RfP.Step} (h : OKL L) {k : Nat} {κ ν : Int} (hd : L.drop k = (κ, ν) :: L.drop (k + 1)) : (0 ≤ κ ∧ κ ≤ 2 ∧ 1 ≤ ν) ∧ ν ≤ 2147483647 ∧ 0 ≤ sumN (L.drop (k + 1)) ∧ sumN (L.drop k) = ν + sumN (L.drop (k + 1)) := by
  have hm : (κ, ν) ∈ L := List.mem_of_mem_drop (i := k) (by rw [hd]; simp)
  have h1 := h.ok _ hm
  have h2 := sumN_nonneg (L.drop (k + 1)) (fun s hs => (h.ok s (List.mem_of_mem_drop hs)).1)
  unfold RfP.okS at h1
  refine ⟨h1.1, h1.2, by omega, ?_⟩
  conv => lhs; rw [hd]
  rfl
theorem OKL.nn {L : List RfP.Step} (h : OKL L) (k : Nat) : 0 ≤ sumN (L.drop k) := by
  have h2 := sumN_nonneg (L.drop k) (fun s hs => (h.ok s (List.mem_of_mem_drop hs)).1)
  omega
set_option maxRecDepth 100000 in
set_option maxHeartbeats 4000000 in
theorem Where_any (la : Option Addr) (cap : Nat) (L : List RfP.Step) (w : World) (h : StepsAt la L w) (ho : OKL L) (p : Int) (hp : 0 ≤ p ∧ p ≤ 4294967296) : Calls Tryd.prog 73 #[.slice la L.length cap, .int .i64 p] w fun e w' => e = .returned (.int .i64 (RfP.whr L p 0)) ∧ Below w.heap.size w w' := by
  have hlen := ho.len
  have hsum := ho.sum
  refine enter env_ok Tryd.func73 rfl Tryd.results73 Tryd.ntmps73 [] [] [.any (.slice la L.length cap), .int .i64 p] ⟨rfl, trivial, trivial⟩ (Nat.le_of_ble_eq_true rfl) w _ 1000 ?_
  repeat' (first | ((with_reducible first | show wpS _ _ _ _ | show putD _ _ _ _ | show putW _ _ _ _ | show splitG _ _ _ | show wpQ _ _ _ _ _ _ | show wpD _ _ _ _ _ _ _); conv => whnf) | ((with_reducible show RetN _ _ _); refine retB fun β => ?_) | ((with_reducible show _ ∧ _); first | (apply And.intro; (· intro h; exfalso; first | omega | (revert h; decide)); intro _) | (apply And.intro; rotate_left; (· intro h; exfalso; first | omega | (revert h; decide)); intro _) | (refine ⟨fun _ => ?_, fun _ => ?_⟩) | (apply And.intro; · kernel_rfl) | (apply And.intro; · (show inK _ _; unfold inK; omega)) | (apply And.intro; · (show (_ : Int) ≤ 9223372036854775807; simp only [List.length_append, List.length_drop, List.length_take, List.length_cons, List.length_nil]; omega))) | ((with_reducible show CallN _ _ _ _ _ _ _ _); first | fail) | ((with_reducible show ∃ _ : SV, _); first | (refine ⟨_, ?ok, x_len Tryd.underlying48, ?_⟩; (case ok => exact fun _ _ => trivial))) | ((with_reducible show ∃ _, _); first | fail))
  refine loop env_ok rfl (T := {t : Nat × Int × Int // t.1 ≤ L.length ∧ 0 ≤ t.2.1 ∧ t.2.1 ≤ 4294967296 ∧ 0 ≤ t.2.2 ∧ t.2.2 + sumN (L.drop t.1) ≤ 4294967294 ∧ RfP.whr L p 0 = RfP.whr (L.drop t.1) t.2.1 t.2.2}) (fun t => ⟨[(0, .any (.slice la L.length cap)), (1, .int .i64 t.1.2.1), (5, .int .i64 t.1.2.2), (8, .any (.slice la L.length cap)), (9, .int .i64 (L.length : Nat)), (10, .int .i64 (t.1.1 : Nat))], [], 0, 51⟩) (fun t => L.length - t.1.1) ⟨(0, p, 0), Nat.zero_le _, hp.1, hp.2, Int.le_refl _, by simpa using hsum, rfl⟩ 1000 [] [] (fun _ => Nat.zero_le _) (by ((with_reducible show wk _ _); repeat' (first | exact trivial | exact eqSV_refl _ | (refine eqI ?_) | (refine eqS ?_) | (with_reducible exact rfl) | apply And.intro | exact Nat.zero_lt_one | exact Nat.le_of_ble_eq_true rfl | (with_reducible assumption) | ((show (_ : Int) = _); (try dsimp only); omega) | ((show eqSV _ _); simp [eqSV, isB, bval, *]; done) | rfl))) (fun t I hI => ?_)
  obtain ⟨⟨k, P, O⟩, hk, hP, hP2, hO, hS, HA⟩ := t
  dsimp only at hk hP hP2 hO hS HA ⊢
  clear hp hsum
  by_cases hlt : k < L.length
  · obtain ⟨⟨κ, ν⟩, hs, hd⟩ := step_at hlt
    obtain ⟨a, rfl, -⟩ := h k _ hs
    obtain ⟨h1, h2, h3, h4⟩ := ho.step hd
    rw [h4] at hS
    rw [hd] at HA
    clear hd h4
    repeat' (first | ((with_reducible first | show wpS _ _ _ _ | show putD _ _ _ _ | show putW _ _ _ _ | show splitG _ _ _ | show wpQ _ _ _ _ _ _ | show wpD _ _ _ _ _ _ _); conv => whnf) | ((with_reducible show RetN _ _ _); refine retB fun β => ?_) | ((with_reducible show _ ∧ _); first | (apply And.intro; (· intro h; exfalso; first | omega | (revert h; decide)); intro _) | (apply And.intro; rotate_left; (· intro h; exfalso; first | omega | (revert h; decide)); intro _) | (refine ⟨fun _ => ?_, fun _ => ?_⟩) | (apply And.intro; · kernel_rfl) | (apply And.intro; · (show inK _ _; unfold inK; omega)) | (apply And.intro; · (show (_ : Int) ≤ 9223372036854775807; simp only [List.length_append, List.length_drop, List.length_take, List.length_cons, List.length_nil]; omega))) | ((with_reducible show CallN _ _ _ _ _ _ _ _); first | fail) | ((with_reducible show ∃ _ : SV, _); first | (refine ⟨_, ?ok, x_index (j := k) (by omega) Tryd.underlying48 (fun w => Tryd.sizeOf81 w) (by omega), ?_⟩; (case ok => exact fun _ _ => rfl)) | (refine ⟨.agg [.int .i64 κ, .int .i64 ν], fun _ _ => ⟨trivial, trivial, trivial⟩, x_loadAgg (fun w => Tryd.isAgg81 w) (fun w => Tryd.sizeOf81 w) (step_cells rfl h hs), ?_⟩)) | ((with_reducible show ∃ _, _); first | fail))
    all_goals first | (with_reducible show BackN _ _ _) | (rw [HA]; simp only [RfP.whr, SV.den]; congr 1; (repeat' split) <;> omega)
    all_goals first | (refine hI _ ⟨(k + 1, P, O + ν), by omega, by dsimp only; omega, by dsimp only; omega, by dsimp only; omega, by dsimp only; omega, by rw [HA]; simp only [RfP.whr]; rw [if_pos (by omega : κ = 1)]⟩ (by dsimp only; omega) (by ((with_reducible show wk _ _); repeat' (first | exact trivial | exact eqSV_refl _ | (refine eqI ?_) | (refine eqS ?_) | (with_reducible exact rfl) | apply And.intro | exact Nat.zero_lt_one | exact Nat.le_of_ble_eq_true rfl | (with_reducible assumption) | ((show (_ : Int) = _); (try dsimp only); omega) | ((show eqSV _ _); simp [eqSV, isB, bval, *]; done) | rfl)))) | (refine hI _ ⟨(k + 1, P - ν, O + ν), by omega, by dsimp only; omega, by dsimp only; omega, by dsimp only; omega, by dsimp only; omega, by rw [HA]; simp only [RfP.whr]; rw [if_neg (by omega : ¬ κ = 1), if_pos (by omega : κ = 0), if_neg (by omega : ¬ P < ν)]⟩ (by dsimp only; omega) (by ((with_reducible show wk _ _); repeat' (first | exact trivial | exact eqSV_refl _ | (refine eqI ?_) | (refine eqS ?_) | (with_reducible exact rfl) | apply And.intro | exact Nat.zero_lt_one | exact Nat.le_of_ble_eq_true rfl | (with_reducible assumption) | ((show (_ : Int) = _); (try dsimp only); omega) | ((show eqSV _ _); simp [eqSV, isB, bval, *]; done) | rfl)))) | (refine hI _ ⟨(k + 1, P - ν, O), by omega, by dsimp only; omega, by dsimp only; omega, by dsimp only; omega, by dsimp only; omega, by rw [HA]; simp only [RfP.whr]; rw [if_neg (by omega : ¬ κ = 1), if_neg (by omega : ¬ κ = 0), if_neg (by omega : ¬ P < ν)]⟩ (by dsimp only; omega) (by ((with_reducible show wk _ _); repeat' (first | exact trivial | exact eqSV_refl _ | (refine eqI ?_) | (refine eqS ?_) | (with_reducible exact rfl) | apply And.intro | exact Nat.zero_lt_one | exact Nat.le_of_ble_eq_true rfl | (with_reducible assumption) | ((show (_ : Int) = _); (try dsimp only); omega) | ((show eqSV _ _); simp [eqSV, isB, bval, *]; done) | rfl))))
  · rw [List.drop_eq_nil_of_le (by omega)] at HA hS
    simp only [sumN] at hS
    repeat' (first | ((with_reducible first | show wpS _ _ _ _ | show putD _ _ _ _ | show putW _ _ _ _ | show splitG _ _ _ | show wpQ _ _ _ _ _ _ | show wpD _ _ _ _ _ _ _); conv => whnf) | ((with_reducible show RetN _ _ _); refine retB fun β => ?_) | ((with_reducible show _ ∧ _); first | (apply And.intro; (· intro h; exfalso; first | omega | (revert h; decide)); intro _) | (apply And.intro; rotate_left; (· intro h; exfalso; first | omega | (revert h; decide)); intro _) | (refine ⟨fun _ => ?_, fun _ => ?_⟩) | (apply And.intro; · kernel_rfl) | (apply And.intro; · (show inK _ _; unfold inK; omega)) | (apply And.intro; · (show (_ : Int) ≤ 9223372036854775807; simp only [List.length_append, List.length_drop, List.length_take, List.length_cons, List.length_nil]; omega))) | ((with_reducible show CallN _ _ _ _ _ _ _ _); first | fail) | ((with_reducible show ∃ _ : SV, _); first | fail) | ((with_reducible show ∃ _, _); first | fail))
    rw [HA]; rfl
end Go.Proofs.YtgphgimbnflhfaaDoor
