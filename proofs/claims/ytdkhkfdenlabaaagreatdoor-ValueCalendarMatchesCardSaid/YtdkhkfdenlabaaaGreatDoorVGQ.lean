/- Values, the reference: the calendar. Values: 25 percent is entered; the law of the calendar. The frame of a law's proof: what was read below the heap's old size is read so again. Arguments that are fractions: opened to their fields. -/
import Derived.Test.YtdkhkfdenlabaaaGreatDoorVGP
import Derived.ProofKit
import Derived.OpenShut
import Derived.ShutString
import Derived.Below
import Derived.Carry
import Derived.Test.YtdkhkfdenlabaaaGreatDoorVGL
import Derived.Deep.Slices
import Derived.Deep.Fields
import Derived.ChangeSame
set_option linter.unusedSimpArgs false
set_option linter.unusedVariables false
namespace Go.Proofs.YtdkhkfdenlabaaaGreatDoor
open Go.RowKit
open Sym
attribute [local irreducible] Calls Sym.AggEq ExP.nd ExP.dig ExP.upd ExP.writeF ExP.writeE
set_option maxRecDepth 100000 in
theorem rleap_any (y : Nat) (w : World) (hy : y ≤ 100000) : Calls Tryz.prog 82 #[.int .i64 (y : Int)] w fun e w' => e = .returned (.bool (VaP.leap y)) ∧ Below w.heap.size w w' := by
  refine enter env_ok Tryz.func82 rfl Tryz.results82 Tryz.ntmps82 [] [] [.int .i64 (y : Int)] (by simp [SV.oks, SV.ok]) (Nat.le_of_ble_eq_true rfl) w _ 1000 ?_
  repeat' (first | ((with_reducible first | show wpS _ _ _ _ | show putD _ _ _ _ | show putW _ _ _ _ | show splitG _ _ _ | show wpQ _ _ _ _ _ _ | show wpD _ _ _ _ _ _ _ | show wpX _ _ _ _ _ _ _ | show expX _ _ _ _ _ _ | show stepX _ _ _ _ | show keepR _ _ _ | show wpY _ _ _ _); conv => whnf) | ((with_reducible show RetN _ _ _); refine retB fun β => ?_) | ((with_reducible show _ ∧ _); first | (apply And.intro; (· intro h; exfalso; first | omega | (revert h; decide)); intro _) | (apply And.intro; rotate_left; (· intro h; exfalso; first | omega | (revert h; decide)); intro _) | (refine ⟨fun _ => ?_, fun _ => ?_⟩) | (apply And.intro; · kernel_rfl) | (apply And.intro; · (show inK _ _; unfold inK; omega)) | (apply And.intro; · (show (_ : Int) ≤ 9223372036854775807; (try simp only [List.length_append, List.length_drop, List.length_take, List.length_cons, List.length_nil]); omega))) | ((with_reducible show AllBe _); refine allBe fun βe => ?_; conv => whnf) | ((with_reducible show bothX _ _); refine bothI ?_ ?_; conv => whnf) | (with_reducible exact trivial) | ((with_reducible show CallN _ _ _ _ _ _ _ _); refine call_of env_ok rfl 1000 ?_) | ((with_reducible show XopN _ _ _ _ _ _); refine xop_of env_ok rfl 1000 ?_) | ((with_reducible show CallX _ _ _ _ _ _); first | fail) | ((with_reducible show OpX _ _ _ _); first | fail) | ((with_reducible show ∃ _ : SV, _); first | (refine ⟨_, ?ok, x_rem (by omega) (by omega), ?_⟩; (case ok => exact fun _ _ => trivial))) | ((with_reducible show ∃ _, _); first | fail))
  all_goals (simp only [SV.den, VaP.leap]; congr 1; rw [Bool.eq_iff_iff]; simp; omega)
set_option maxRecDepth 100000 in
theorem rmdays_any (y m : Nat) (w : World) (hy : y ≤ 100000) : Calls Tryz.prog 81 #[.int .i64 (y : Int), .int .i64 (m : Int)] w fun e w' => e = .returned (.int .i64 (VaP.mdays y m : Nat)) ∧ Below w.heap.size w w' := by
  have L := fun (w' : World) => rleap_any y w' hy
  have hA : m = 2 → VaP.leap y = true → VaP.mdays y m = 29 := fun h1 h2 => by unfold VaP.mdays; rw [if_pos h1, if_pos h2]
  have hB : m = 2 → VaP.leap y = false → VaP.mdays y m = 28 := fun h1 h2 => by unfold VaP.mdays; rw [if_pos h1, if_neg (by rw [h2]; exact Bool.false_ne_true)]
  have hC : m ≠ 2 → (m = 4 ∨ m = 6 ∨ m = 9 ∨ m = 11) → VaP.mdays y m = 30 := fun h1 h2 => by unfold VaP.mdays; rw [if_neg h1, if_pos h2]
  have hD : m ≠ 2 → ¬ (m = 4 ∨ m = 6 ∨ m = 9 ∨ m = 11) → VaP.mdays y m = 31 := fun h1 h2 => by unfold VaP.mdays; rw [if_neg h1, if_neg h2]
  generalize VaP.mdays y m = M at *
  generalize VaP.leap y = lp at *
  refine enter env_ok Tryz.func81 rfl Tryz.results81 Tryz.ntmps81 [] [] [.int .i64 (y : Int), .int .i64 (m : Int)] (by simp [SV.oks, SV.ok]) (Nat.le_of_ble_eq_true rfl) w _ 1000 ?_
  repeat' (first | ((with_reducible first | show wpS _ _ _ _ | show putD _ _ _ _ | show putW _ _ _ _ | show splitG _ _ _ | show wpQ _ _ _ _ _ _ | show wpD _ _ _ _ _ _ _ | show wpX _ _ _ _ _ _ _ | show expX _ _ _ _ _ _ | show stepX _ _ _ _ | show keepR _ _ _ | show wpY _ _ _ _); conv => whnf) | ((with_reducible show RetN _ _ _); refine retB fun β => ?_) | ((with_reducible show _ ∧ _); first | (apply And.intro; (· intro h; exfalso; first | omega | (revert h; decide)); intro _) | (apply And.intro; rotate_left; (· intro h; exfalso; first | omega | (revert h; decide)); intro _) | (refine ⟨fun _ => ?_, fun _ => ?_⟩) | (apply And.intro; · kernel_rfl) | (apply And.intro; · (show inK _ _; unfold inK; omega)) | (apply And.intro; · (show (_ : Int) ≤ 9223372036854775807; (try simp only [List.length_append, List.length_drop, List.length_take, List.length_cons, List.length_nil]); omega))) | ((with_reducible show AllBe _); refine allBe fun βe => ?_; conv => whnf) | ((with_reducible show bothX _ _); refine bothI ?_ ?_; conv => whnf) | (with_reducible exact trivial) | ((with_reducible show CallN _ _ _ _ _ _ _ _); refine call_of env_ok rfl 1000 ?_) | ((with_reducible show XopN _ _ _ _ _ _); refine xop_of env_ok rfl 1000 ?_) | ((with_reducible show CallX _ _ _ _ _ _); first | (refine callX (.bool lp) (by kernel_rfl) rfl (trivial) (fun β w hm => L w) ?_)) | ((with_reducible show OpX _ _ _ _); first | fail) | ((with_reducible show ∃ _ : SV, _); first | fail) | ((with_reducible show ∃ _, _); first | fail))
  all_goals first | (rw [hC (by omega) (by omega)]; rfl) | (rw [hD (by omega) (by omega)]; rfl) | (rw [hA (by omega) (by assumption)]; rfl) | (rw [hB (by omega) (by assumption)]; rfl)
set_option maxRecDepth 100000 in
theorem rday_no (y m d : Int) (w : World) (h : ¬ VaP.dayP y m d) : Calls Tryz.prog 30 #[.int .i64 y, .int .i64 m, .int .i64 d] w fun e w' => e = .returned (.int .i64 0) ∧ Below w.heap.size w w' := by
  by_cases h0 : y < 1900 ∨ 9999 < y ∨ m < 1 ∨ 12 < m ∨ d < 1
  · refine enter env_ok Tryz.func30 rfl Tryz.results30 Tryz.ntmps30 [] [] [.int .i64 y, .int .i64 m, .int .i64 d] (by simp [SV.oks, SV.ok]) (Nat.le_of_ble_eq_true rfl) w _ 1000 ?_
    repeat' (first | ((with_reducible first | show wpS _ _ _ _ | show putD _ _ _ _ | show putW _ _ _ _ | show splitG _ _ _ | show wpQ _ _ _ _ _ _ | show wpD _ _ _ _ _ _ _ | show wpX _ _ _ _ _ _ _ | show expX _ _ _ _ _ _ | show stepX _ _ _ _ | show keepR _ _ _ | show wpY _ _ _ _); conv => whnf) | ((with_reducible show RetN _ _ _); refine retB fun β => ?_) | ((with_reducible show _ ∧ _); first | (apply And.intro; (· intro h; exfalso; first | omega | (revert h; decide)); intro _) | (apply And.intro; rotate_left; (· intro h; exfalso; first | omega | (revert h; decide)); intro _) | (refine ⟨fun _ => ?_, fun _ => ?_⟩) | (apply And.intro; · kernel_rfl) | (apply And.intro; · (show inK _ _; unfold inK; omega)) | (apply And.intro; · (show (_ : Int) ≤ 9223372036854775807; (try simp only [List.length_append, List.length_drop, List.length_take, List.length_cons, List.length_nil]); omega))) | ((with_reducible show AllBe _); refine allBe fun βe => ?_; conv => whnf) | ((with_reducible show bothX _ _); refine bothI ?_ ?_; conv => whnf) | (with_reducible exact trivial) | ((with_reducible show CallN _ _ _ _ _ _ _ _); refine call_of env_ok rfl 1000 ?_) | ((with_reducible show XopN _ _ _ _ _ _); refine xop_of env_ok rfl 1000 ?_) | ((with_reducible show CallX _ _ _ _ _ _); first | fail) | ((with_reducible show OpX _ _ _ _); first | fail) | ((with_reducible show ∃ _ : SV, _); first | fail) | ((with_reducible show ∃ _, _); first | fail))
    all_goals first | rfl | (exfalso; omega)
  · obtain ⟨y, rfl⟩ : ∃ k : Nat, y = (k : Int) := ⟨y.toNat, by omega⟩
    obtain ⟨m, rfl⟩ : ∃ k : Nat, m = (k : Int) := ⟨m.toNat, by omega⟩
    have D := fun (w' : World) => rmdays_any y m w' (by omega)
    unfold VaP.dayP at h
    rw [Int.toNat_natCast, Int.toNat_natCast] at h
    have hd : (VaP.mdays y m : Int) < d := by omega
    have hb := VaP.mdays_le y m
    generalize VaP.mdays y m = M at *
    refine enter env_ok Tryz.func30 rfl Tryz.results30 Tryz.ntmps30 [] [] [.int .i64 (y : Int), .int .i64 (m : Int), .int .i64 d] (by simp [SV.oks, SV.ok]) (Nat.le_of_ble_eq_true rfl) w _ 1000 ?_
    repeat' (first | ((with_reducible first | show wpS _ _ _ _ | show putD _ _ _ _ | show putW _ _ _ _ | show splitG _ _ _ | show wpQ _ _ _ _ _ _ | show wpD _ _ _ _ _ _ _ | show wpX _ _ _ _ _ _ _ | show expX _ _ _ _ _ _ | show stepX _ _ _ _ | show keepR _ _ _ | show wpY _ _ _ _); conv => whnf) | ((with_reducible show RetN _ _ _); refine retB fun β => ?_) | ((with_reducible show _ ∧ _); first | (apply And.intro; (· intro h; exfalso; first | omega | (revert h; decide)); intro _) | (apply And.intro; rotate_left; (· intro h; exfalso; first | omega | (revert h; decide)); intro _) | (refine ⟨fun _ => ?_, fun _ => ?_⟩) | (apply And.intro; · kernel_rfl) | (apply And.intro; · (show inK _ _; unfold inK; omega)) | (apply And.intro; · (show (_ : Int) ≤ 9223372036854775807; (try simp only [List.length_append, List.length_drop, List.length_take, List.length_cons, List.length_nil]); omega))) | ((with_reducible show AllBe _); refine allBe fun βe => ?_; conv => whnf) | ((with_reducible show bothX _ _); refine bothI ?_ ?_; conv => whnf) | (with_reducible exact trivial) | ((with_reducible show CallN _ _ _ _ _ _ _ _); refine call_of env_ok rfl 1000 ?_) | ((with_reducible show XopN _ _ _ _ _ _); refine xop_of env_ok rfl 1000 ?_) | ((with_reducible show CallX _ _ _ _ _ _); first | (refine callX (.int .i64 (M : Nat)) (by kernel_rfl) rfl (trivial) (fun β w hm => D w) ?_)) | ((with_reducible show OpX _ _ _ _); first | fail) | ((with_reducible show ∃ _ : SV, _); first | fail) | ((with_reducible show ∃ _, _); first | fail))
    all_goals first | rfl | (exfalso; omega)
set_option maxRecDepth 100000 in
set_option maxHeartbeats 1000000 in
theorem rday_yes (y m : Nat) (d : Int) (w : World) (h1 : 1900 ≤ y) (h2 : y ≤ 9999) (h3 : m < 12) (hd : 1 ≤ d ∧ d ≤ (VaP.mdays y (m + 1) : Nat)) : Calls Tryz.prog 30 #[.int .i64 (y : Int), .int .i64 ((m + 1 : Nat) : Int), .int .i64 d] w fun e w' => e = .returned (.int .i64 (((VaP.bef y + VaP.msum y m : Nat) : Int) + d)) ∧ Below w.heap.size w w' := by
  have D0 := fun (w' : World) => rmdays_any y (m + 1) w' (by omega)
  have D1 := fun (k : Nat) (w' : World) => rmdays_any y k w' (by omega)
  have hmd := VaP.mdays_le y
  have hms := VaP.msum_le y
  have hst : ∀ i, VaP.msum y (i + 1) = VaP.msum y i + VaP.mdays y (i + 1) := fun _ => rfl
  have hz : VaP.msum y 0 = 0 := rfl
  have hbef := fun k (h : 1900 ≤ k) => VaP.bef_step h
  have hmon := fun k (h : 1900 ≤ k) (h' : k ≤ y) => (VaP.bef_mono h (10000 - k)).1
  have hbz := VaP.bef_start
  have hend := VaP.bef_end
  have hmons : ∀ k, 1900 ≤ k → k ≤ y → VaP.bef k ≤ 2958464 := fun k a b => by
    have := hmon k a b
    rw [show k + (10000 - k) = 10000 by omega, hend] at this
    omega
  clear hmon hend
  generalize VaP.msum y = MS at *
  generalize VaP.mdays y = MD at *
  refine enter env_ok Tryz.func30 rfl Tryz.results30 Tryz.ntmps30 [] [] [.int .i64 (y : Int), .int .i64 ((m + 1 : Nat) : Int), .int .i64 d] (by simp [SV.oks, SV.ok]) (Nat.le_of_ble_eq_true rfl) w _ 1000 ?_
  repeat' (first | ((with_reducible first | show wpS _ _ _ _ | show putD _ _ _ _ | show putW _ _ _ _ | show splitG _ _ _ | show wpQ _ _ _ _ _ _ | show wpD _ _ _ _ _ _ _ | show wpX _ _ _ _ _ _ _ | show expX _ _ _ _ _ _ | show stepX _ _ _ _ | show keepR _ _ _ | show wpY _ _ _ _); conv => whnf) | ((with_reducible show RetN _ _ _); refine retB fun β => ?_) | ((with_reducible show _ ∧ _); first | (apply And.intro; (· intro h; exfalso; first | omega | (revert h; decide)); intro _) | (apply And.intro; rotate_left; (· intro h; exfalso; first | omega | (revert h; decide)); intro _) | (refine ⟨fun _ => ?_, fun _ => ?_⟩) | (apply And.intro; · kernel_rfl) | (apply And.intro; · (show inK _ _; unfold inK; omega)) | (apply And.intro; · (show (_ : Int) ≤ 9223372036854775807; (try simp only [List.length_append, List.length_drop, List.length_take, List.length_cons, List.length_nil]); omega))) | ((with_reducible show AllBe _); refine allBe fun βe => ?_; conv => whnf) | ((with_reducible show bothX _ _); refine bothI ?_ ?_; conv => whnf) | (with_reducible exact trivial) | ((with_reducible show CallN _ _ _ _ _ _ _ _); refine call_of env_ok rfl 1000 ?_) | ((with_reducible show XopN _ _ _ _ _ _); refine xop_of env_ok rfl 1000 ?_) | ((with_reducible show CallX _ _ _ _ _ _); first | (refine callX (.int .i64 (MD (m + 1) : Nat)) (by kernel_rfl) rfl (trivial) (fun β w hm => D0 w) ?_)) | ((with_reducible show OpX _ _ _ _); first | fail) | ((with_reducible show ∃ _ : SV, _); first | fail) | ((with_reducible show ∃ _, _); first | fail))
  all_goals first | (exfalso; have := hmd (m + 1); omega) | skip
  refine loop env_ok rfl (T := {k : Nat // 1900 ≤ k ∧ k ≤ y}) (fun t => ⟨[(0, .int .i64 (y : Int)), (1, .int .i64 ((m + 1 : Nat) : Int)), (7, .int .i64 (d + (VaP.bef t.1 : Nat))), (8, .int .i64 (t.1 : Nat))], [], 0, 58⟩) (fun t => y - t.1) ⟨1900, Nat.le_refl _, h1⟩ 1000 [] [] (fun _ => Nat.zero_le _) (by ((with_reducible show wk _ _); repeat' (first | exact trivial | exact eqSV_refl _ | (refine eqI ?_) | (refine eqS ?_) | (with_reducible exact rfl) | apply And.intro | exact Nat.zero_lt_one | exact Nat.le_of_ble_eq_true rfl | (with_reducible assumption) | ((show (_ : Int) = _); (try dsimp only); omega) | ((show eqSV _ _); simp [eqSV, isB, bval, *]; done) | rfl))) (fun t I hI => ?_)
  obtain ⟨k, hk0, hk1⟩ := t
  dsimp only
  have hb1 := hbef k hk0
  have hm1 := hmons k hk0 hk1
  have hd31 := hmd (m + 1)
  have L := fun (w' : World) => rleap_any k w' (by omega)
  unfold VaP.ydays at hb1
  by_cases hlt : k < y
  · cases hl : VaP.leap k with
    | true =>
      rw [hl] at L hb1
      rw [if_pos rfl] at hb1
      repeat' (first | ((with_reducible first | show wpS _ _ _ _ | show putD _ _ _ _ | show putW _ _ _ _ | show splitG _ _ _ | show wpQ _ _ _ _ _ _ | show wpD _ _ _ _ _ _ _ | show wpX _ _ _ _ _ _ _ | show expX _ _ _ _ _ _ | show stepX _ _ _ _ | show keepR _ _ _ | show wpY _ _ _ _); conv => whnf) | ((with_reducible show RetN _ _ _); refine retB fun β => ?_) | ((with_reducible show _ ∧ _); first | (apply And.intro; (· intro h; exfalso; first | omega | (revert h; decide)); intro _) | (apply And.intro; rotate_left; (· intro h; exfalso; first | omega | (revert h; decide)); intro _) | (refine ⟨fun _ => ?_, fun _ => ?_⟩) | (apply And.intro; · kernel_rfl) | (apply And.intro; · (show inK _ _; unfold inK; omega)) | (apply And.intro; · (show (_ : Int) ≤ 9223372036854775807; (try simp only [List.length_append, List.length_drop, List.length_take, List.length_cons, List.length_nil]); omega))) | ((with_reducible show AllBe _); refine allBe fun βe => ?_; conv => whnf) | ((with_reducible show bothX _ _); refine bothI ?_ ?_; conv => whnf) | (with_reducible exact trivial) | ((with_reducible show CallN _ _ _ _ _ _ _ _); refine call_of env_ok rfl 1000 ?_) | ((with_reducible show XopN _ _ _ _ _ _); refine xop_of env_ok rfl 1000 ?_) | ((with_reducible show CallX _ _ _ _ _ _); first | (refine callX (.lit true) (by kernel_rfl) rfl (trivial) (fun β w hm => L w) ?_)) | ((with_reducible show OpX _ _ _ _); first | fail) | ((with_reducible show ∃ _ : SV, _); first | fail) | ((with_reducible show ∃ _, _); first | fail))
      all_goals first | (exfalso; omega) | (refine hI _ ⟨k + 1, by omega, by omega⟩ (by dsimp only; omega) (by ((with_reducible show wk _ _); repeat' (first | exact trivial | exact eqSV_refl _ | (refine eqI ?_) | (refine eqS ?_) | (with_reducible exact rfl) | apply And.intro | exact Nat.zero_lt_one | exact Nat.le_of_ble_eq_true rfl | (with_reducible assumption) | ((show (_ : Int) = _); (try dsimp only); omega) | ((show eqSV _ _); simp [eqSV, isB, bval, *]; done) | rfl))); done) | trace_state
    | false =>
      rw [hl] at L hb1
      rw [if_neg Bool.false_ne_true] at hb1
      repeat' (first | ((with_reducible first | show wpS _ _ _ _ | show putD _ _ _ _ | show putW _ _ _ _ | show splitG _ _ _ | show wpQ _ _ _ _ _ _ | show wpD _ _ _ _ _ _ _ | show wpX _ _ _ _ _ _ _ | show expX _ _ _ _ _ _ | show stepX _ _ _ _ | show keepR _ _ _ | show wpY _ _ _ _); conv => whnf) | ((with_reducible show RetN _ _ _); refine retB fun β => ?_) | ((with_reducible show _ ∧ _); first | (apply And.intro; (· intro h; exfalso; first | omega | (revert h; decide)); intro _) | (apply And.intro; rotate_left; (· intro h; exfalso; first | omega | (revert h; decide)); intro _) | (refine ⟨fun _ => ?_, fun _ => ?_⟩) | (apply And.intro; · kernel_rfl) | (apply And.intro; · (show inK _ _; unfold inK; omega)) | (apply And.intro; · (show (_ : Int) ≤ 9223372036854775807; (try simp only [List.length_append, List.length_drop, List.length_take, List.length_cons, List.length_nil]); omega))) | ((with_reducible show AllBe _); refine allBe fun βe => ?_; conv => whnf) | ((with_reducible show bothX _ _); refine bothI ?_ ?_; conv => whnf) | (with_reducible exact trivial) | ((with_reducible show CallN _ _ _ _ _ _ _ _); refine call_of env_ok rfl 1000 ?_) | ((with_reducible show XopN _ _ _ _ _ _); refine xop_of env_ok rfl 1000 ?_) | ((with_reducible show CallX _ _ _ _ _ _); first | (refine callX (.lit false) (by kernel_rfl) rfl (trivial) (fun β w hm => L w) ?_)) | ((with_reducible show OpX _ _ _ _); first | fail) | ((with_reducible show ∃ _ : SV, _); first | fail) | ((with_reducible show ∃ _, _); first | fail))
      all_goals first | (exfalso; omega) | (refine hI _ ⟨k + 1, by omega, by omega⟩ (by dsimp only; omega) (by ((with_reducible show wk _ _); repeat' (first | exact trivial | exact eqSV_refl _ | (refine eqI ?_) | (refine eqS ?_) | (with_reducible exact rfl) | apply And.intro | exact Nat.zero_lt_one | exact Nat.le_of_ble_eq_true rfl | (with_reducible assumption) | ((show (_ : Int) = _); (try dsimp only); omega) | ((show eqSV _ _); simp [eqSV, isB, bval, *]; done) | rfl))); done) | trace_state
  · have hky : k = y := by omega
    subst hky
    clear hI hb1 L hbef hmons
    generalize VaP.bef k = BY at *
    repeat' (first | ((with_reducible first | show wpS _ _ _ _ | show putD _ _ _ _ | show putW _ _ _ _ | show splitG _ _ _ | show wpQ _ _ _ _ _ _ | show wpD _ _ _ _ _ _ _ | show wpX _ _ _ _ _ _ _ | show expX _ _ _ _ _ _ | show stepX _ _ _ _ | show keepR _ _ _ | show wpY _ _ _ _); conv => whnf) | ((with_reducible show RetN _ _ _); refine retB fun β => ?_) | ((with_reducible show _ ∧ _); first | (apply And.intro; (· intro h; exfalso; first | omega | (revert h; decide)); intro _) | (apply And.intro; rotate_left; (· intro h; exfalso; first | omega | (revert h; decide)); intro _) | (refine ⟨fun _ => ?_, fun _ => ?_⟩) | (apply And.intro; · kernel_rfl) | (apply And.intro; · (show inK _ _; unfold inK; omega)) | (apply And.intro; · (show (_ : Int) ≤ 9223372036854775807; (try simp only [List.length_append, List.length_drop, List.length_take, List.length_cons, List.length_nil]); omega))) | ((with_reducible show AllBe _); refine allBe fun βe => ?_; conv => whnf) | ((with_reducible show bothX _ _); refine bothI ?_ ?_; conv => whnf) | (with_reducible exact trivial) | ((with_reducible show CallN _ _ _ _ _ _ _ _); refine call_of env_ok rfl 1000 ?_) | ((with_reducible show XopN _ _ _ _ _ _); refine xop_of env_ok rfl 1000 ?_) | ((with_reducible show CallX _ _ _ _ _ _); first | fail) | ((with_reducible show OpX _ _ _ _); first | fail) | ((with_reducible show ∃ _ : SV, _); first | fail) | ((with_reducible show ∃ _, _); first | fail))
    all_goals first | (exfalso; omega) | skip
    refine loop env_ok rfl (T := {i : Nat // i ≤ m}) (fun t => ⟨[(0, .int .i64 (k : Int)), (1, .int .i64 ((m + 1 : Nat) : Int)), (7, .int .i64 (d + (BY : Nat) + (MS t.1 : Nat))), (9, .int .i64 ((t.1 : Nat) + 1))], [], 0, 58⟩) (fun t => m - t.1) ⟨0, Nat.zero_le _⟩ 1000 [] [] (fun _ => Nat.zero_le _) (by ((with_reducible show wk _ _); repeat' (first | exact trivial | exact eqSV_refl _ | (refine eqI ?_) | (refine eqS ?_) | (with_reducible exact rfl) | apply And.intro | exact Nat.zero_lt_one | exact Nat.le_of_ble_eq_true rfl | (with_reducible assumption) | ((show (_ : Int) = _); (try dsimp only); omega) | ((show eqSV _ _); simp [eqSV, isB, bval, *]; done) | rfl))) (fun t I hI => ?_)
    obtain ⟨i, hi⟩ := t
    dsimp only
    have h5 := hst i
    have h6 := hmd (i + 1)
    have h8 := hms i
    have D2 := D1 (i + 1)
    rw [show ((i + 1 : Nat) : Int) = (i : Int) + 1 from rfl] at D2
    repeat' (first | ((with_reducible first | show wpS _ _ _ _ | show putD _ _ _ _ | show putW _ _ _ _ | show splitG _ _ _ | show wpQ _ _ _ _ _ _ | show wpD _ _ _ _ _ _ _ | show wpX _ _ _ _ _ _ _ | show expX _ _ _ _ _ _ | show stepX _ _ _ _ | show keepR _ _ _ | show wpY _ _ _ _); conv => whnf) | ((with_reducible show RetN _ _ _); refine retB fun β => ?_) | ((with_reducible show _ ∧ _); first | (apply And.intro; (· intro h; exfalso; first | omega | (revert h; decide)); intro _) | (apply And.intro; rotate_left; (· intro h; exfalso; first | omega | (revert h; decide)); intro _) | (refine ⟨fun _ => ?_, fun _ => ?_⟩) | (apply And.intro; · kernel_rfl) | (apply And.intro; · (show inK _ _; unfold inK; omega)) | (apply And.intro; · (show (_ : Int) ≤ 9223372036854775807; (try simp only [List.length_append, List.length_drop, List.length_take, List.length_cons, List.length_nil]); omega))) | ((with_reducible show AllBe _); refine allBe fun βe => ?_; conv => whnf) | ((with_reducible show bothX _ _); refine bothI ?_ ?_; conv => whnf) | (with_reducible exact trivial) | ((with_reducible show CallN _ _ _ _ _ _ _ _); refine call_of env_ok rfl 1000 ?_) | ((with_reducible show XopN _ _ _ _ _ _); refine xop_of env_ok rfl 1000 ?_) | ((with_reducible show CallX _ _ _ _ _ _); first | (refine callX (.int .i64 (MD (i + 1) : Nat)) (by kernel_rfl) rfl (trivial) (fun β w hm => D2 w) ?_)) | ((with_reducible show OpX _ _ _ _); first | fail) | ((with_reducible show ∃ _ : SV, _); first | fail) | ((with_reducible show ∃ _, _); first | fail))
    all_goals first | (exfalso; omega) | (refine hI _ ⟨i + 1, by omega⟩ (by dsimp only; omega) (by ((with_reducible show wk _ _); repeat' (first | exact trivial | exact eqSV_refl _ | (refine eqI ?_) | (refine eqS ?_) | (with_reducible exact rfl) | apply And.intro | exact Nat.zero_lt_one | exact Nat.le_of_ble_eq_true rfl | (with_reducible assumption) | ((show (_ : Int) = _); (try dsimp only); omega) | ((show eqSV _ _); simp [eqSV, isB, bval, *]; done) | rfl))); done) | (have e : i = m := by { omega }; subst e; have e2 : d + (BY : Nat) + (MS i : Nat) = ((BY + MS i : Nat) : Int) + d := by { omega }; rw [← e2]; rfl) | trace_state
theorem rday_any (y m d : Int) (w : World) : Calls Tryz.prog 30 #[.int .i64 y, .int .i64 m, .int .i64 d] w fun e w' => e = .returned (.int .i64 (VaP.dayV y m d)) ∧ Below w.heap.size w w' := by
  by_cases h : VaP.dayP y m d
  · have hp := h
    obtain ⟨h1, h2, h3, h4, h5, h6⟩ := h
    obtain ⟨y, rfl⟩ : ∃ k : Nat, y = (k : Int) := ⟨y.toNat, by omega⟩
    obtain ⟨m, rfl⟩ : ∃ k : Nat, m = ((k + 1 : Nat) : Int) := ⟨m.toNat - 1, by omega⟩
    rw [Int.toNat_natCast, Int.toNat_natCast] at h6
    rw [VaP.dayV, if_pos hp, Int.toNat_natCast, Int.toNat_natCast]
    exact rday_yes y m d w (by omega) (by omega) (by omega) ⟨h5, h6⟩
  · rw [VaP.dayV, if_neg h]
    exact rday_no y m d w h
set_option maxRecDepth 100000 in
set_option maxHeartbeats 1000000 in
theorem rdate_any (n y m d : Nat) (w : World) (h1 : 1 ≤ n) (h2 : n ≤ 2958464) (hI : VaP.DateI n y m d) : Calls Tryz.prog 32 #[.int .i64 (n : Int)] w fun e w' => e = .returned (.tuple #[.int .i64 (y : Nat), .int .i64 ((m + 1 : Nat) : Int), .int .i64 (d : Nat)]) ∧ Below w.heap.size w w' := by
  have hf := hI.bounds
  have hy9 : y ≤ 9999 := by
    rcases Nat.lt_or_ge 9999 y with h | h
    · exfalso
      have := (VaP.bef_mono (y := 10000) (by omega) (y - 10000)).1
      rw [show 10000 + (y - 10000) = y by omega, VaP.bef_end] at this
      omega
    · exact h
  have hY := hI.y0
  have hM := hI.m0
  have hd0 := hI.d0
  have hd1 := hI.d1
  have hN := hI.y1
  have hbz := VaP.bef_start
  have hst : ∀ i, VaP.msum y (i + 1) = VaP.msum y i + VaP.mdays y (i + 1) := fun _ => rfl
  have hz : VaP.msum y 0 = 0 := rfl
  have hmd := VaP.mdays_le y
  have hms := VaP.msum_le y
  have hmm : ∀ i, i < m → VaP.msum y (i + 1) ≤ VaP.msum y m := fun i hi => by
    have := VaP.msum_mono y (i + 1) (m - (i + 1))
    rwa [show i + 1 + (m - (i + 1)) = m by omega] at this
  refine enter env_ok Tryz.func32 rfl Tryz.results32 Tryz.ntmps32 [] [] [.int .i64 (n : Int)] (by simp [SV.oks, SV.ok]) (Nat.le_of_ble_eq_true rfl) w _ 1000 ?_
  repeat' (first | ((with_reducible first | show wpS _ _ _ _ | show putD _ _ _ _ | show putW _ _ _ _ | show splitG _ _ _ | show wpQ _ _ _ _ _ _ | show wpD _ _ _ _ _ _ _ | show wpX _ _ _ _ _ _ _ | show expX _ _ _ _ _ _ | show stepX _ _ _ _ | show keepR _ _ _ | show wpY _ _ _ _); conv => whnf) | ((with_reducible show RetN _ _ _); refine retB fun β => ?_) | ((with_reducible show _ ∧ _); first | (apply And.intro; (· intro h; exfalso; first | omega | (revert h; decide)); intro _) | (apply And.intro; rotate_left; (· intro h; exfalso; first | omega | (revert h; decide)); intro _) | (refine ⟨fun _ => ?_, fun _ => ?_⟩) | (apply And.intro; · kernel_rfl) | (apply And.intro; · (show inK _ _; unfold inK; omega)) | (apply And.intro; · (show (_ : Int) ≤ 9223372036854775807; (try simp only [List.length_append, List.length_drop, List.length_take, List.length_cons, List.length_nil]); omega))) | ((with_reducible show AllBe _); refine allBe fun βe => ?_; conv => whnf) | ((with_reducible show bothX _ _); refine bothI ?_ ?_; conv => whnf) | (with_reducible exact trivial) | ((with_reducible show CallN _ _ _ _ _ _ _ _); refine call_of env_ok rfl 1000 ?_) | ((with_reducible show XopN _ _ _ _ _ _); refine xop_of env_ok rfl 1000 ?_) | ((with_reducible show CallX _ _ _ _ _ _); first | fail) | ((with_reducible show OpX _ _ _ _); first | fail) | ((with_reducible show ∃ _ : SV, _); first | fail) | ((with_reducible show ∃ _, _); first | fail))
  refine loop env_ok rfl (T := {k : Nat // 1900 ≤ k ∧ VaP.bef k < n ∧ k ≤ y}) (fun t => ⟨[(0, .int .i64 ((n : Int) - (VaP.bef t.1 : Nat))), (5, .int .i64 (t.1 : Nat))], [], 0, 35⟩) (fun t => y - t.1) ⟨1900, Nat.le_refl _, by omega, hY⟩ 1000 [] [] (fun _ => Nat.zero_le _) (by ((with_reducible show wk _ _); repeat' (first | exact trivial | exact eqSV_refl _ | (refine eqI ?_) | (refine eqS ?_) | (with_reducible exact rfl) | apply And.intro | exact Nat.zero_lt_one | exact Nat.le_of_ble_eq_true rfl | (with_reducible assumption) | ((show (_ : Int) = _); (try dsimp only); omega) | ((show eqSV _ _); simp [eqSV, isB, bval, *]; done) | rfl))) (fun t I hI => ?_)
  obtain ⟨k, hk0, hk1, hk2⟩ := t
  dsimp only
  have hb1 := VaP.bef_step hk0
  have hyd := VaP.ydays_le k
  have L := fun (w' : World) => rleap_any k w' (by omega)
  have hnext : VaP.bef (k + 1) < n → k + 1 ≤ y := fun h => by have := VaP.bef_lt (a := k + 1) (b := y + 1) (by omega) (by omega); omega
  have hend : ¬ VaP.bef (k + 1) < n → k = y := fun h => by
    rcases Nat.lt_or_ge k y with h' | h'
    · exfalso
      have := (VaP.bef_mono (y := k + 1) (by omega) (y - (k + 1))).1
      rw [show k + 1 + (y - (k + 1)) = y by omega] at this
      omega
    · omega
  have hyq : VaP.ydays k = 365 + (if VaP.leap k then 1 else 0) := rfl
  by_cases hb : VaP.bef (k + 1) < n
  · have hk' := hnext hb
    clear hend hnext
    cases hl : VaP.leap k with
    | true =>
      rw [hl] at L hyq
      rw [if_pos rfl] at hyq
      repeat' (first | ((with_reducible first | show wpS _ _ _ _ | show putD _ _ _ _ | show putW _ _ _ _ | show splitG _ _ _ | show wpQ _ _ _ _ _ _ | show wpD _ _ _ _ _ _ _ | show wpX _ _ _ _ _ _ _ | show expX _ _ _ _ _ _ | show stepX _ _ _ _ | show keepR _ _ _ | show wpY _ _ _ _); conv => whnf) | ((with_reducible show RetN _ _ _); refine retB fun β => ?_) | ((with_reducible show _ ∧ _); first | (apply And.intro; (· intro h; exfalso; first | omega | (revert h; decide)); intro _) | (apply And.intro; rotate_left; (· intro h; exfalso; first | omega | (revert h; decide)); intro _) | (refine ⟨fun _ => ?_, fun _ => ?_⟩) | (apply And.intro; · kernel_rfl) | (apply And.intro; · (show inK _ _; unfold inK; omega)) | (apply And.intro; · (show (_ : Int) ≤ 9223372036854775807; (try simp only [List.length_append, List.length_drop, List.length_take, List.length_cons, List.length_nil]); omega))) | ((with_reducible show AllBe _); refine allBe fun βe => ?_; conv => whnf) | ((with_reducible show bothX _ _); refine bothI ?_ ?_; conv => whnf) | (with_reducible exact trivial) | ((with_reducible show CallN _ _ _ _ _ _ _ _); refine call_of env_ok rfl 1000 ?_) | ((with_reducible show XopN _ _ _ _ _ _); refine xop_of env_ok rfl 1000 ?_) | ((with_reducible show CallX _ _ _ _ _ _); first | (refine callX (.lit true) (by kernel_rfl) rfl (trivial) (fun β w hm => L w) ?_)) | ((with_reducible show OpX _ _ _ _); first | fail) | ((with_reducible show ∃ _ : SV, _); first | fail) | ((with_reducible show ∃ _, _); first | fail))
      all_goals first | (exfalso; omega) | (refine hI _ ⟨k + 1, by omega, by omega, hk'⟩ (by dsimp only; omega) (by ((with_reducible show wk _ _); repeat' (first | exact trivial | exact eqSV_refl _ | (refine eqI ?_) | (refine eqS ?_) | (with_reducible exact rfl) | apply And.intro | exact Nat.zero_lt_one | exact Nat.le_of_ble_eq_true rfl | (with_reducible assumption) | ((show (_ : Int) = _); (try dsimp only); omega) | ((show eqSV _ _); simp [eqSV, isB, bval, *]; done) | rfl))); done) | trace_state
    | false =>
      rw [hl] at L hyq
      rw [if_neg Bool.false_ne_true] at hyq
      repeat' (first | ((with_reducible first | show wpS _ _ _ _ | show putD _ _ _ _ | show putW _ _ _ _ | show splitG _ _ _ | show wpQ _ _ _ _ _ _ | show wpD _ _ _ _ _ _ _ | show wpX _ _ _ _ _ _ _ | show expX _ _ _ _ _ _ | show stepX _ _ _ _ | show keepR _ _ _ | show wpY _ _ _ _); conv => whnf) | ((with_reducible show RetN _ _ _); refine retB fun β => ?_) | ((with_reducible show _ ∧ _); first | (apply And.intro; (· intro h; exfalso; first | omega | (revert h; decide)); intro _) | (apply And.intro; rotate_left; (· intro h; exfalso; first | omega | (revert h; decide)); intro _) | (refine ⟨fun _ => ?_, fun _ => ?_⟩) | (apply And.intro; · kernel_rfl) | (apply And.intro; · (show inK _ _; unfold inK; omega)) | (apply And.intro; · (show (_ : Int) ≤ 9223372036854775807; (try simp only [List.length_append, List.length_drop, List.length_take, List.length_cons, List.length_nil]); omega))) | ((with_reducible show AllBe _); refine allBe fun βe => ?_; conv => whnf) | ((with_reducible show bothX _ _); refine bothI ?_ ?_; conv => whnf) | (with_reducible exact trivial) | ((with_reducible show CallN _ _ _ _ _ _ _ _); refine call_of env_ok rfl 1000 ?_) | ((with_reducible show XopN _ _ _ _ _ _); refine xop_of env_ok rfl 1000 ?_) | ((with_reducible show CallX _ _ _ _ _ _); first | (refine callX (.lit false) (by kernel_rfl) rfl (trivial) (fun β w hm => L w) ?_)) | ((with_reducible show OpX _ _ _ _); first | fail) | ((with_reducible show ∃ _ : SV, _); first | fail) | ((with_reducible show ∃ _, _); first | fail))
      all_goals first | (exfalso; omega) | (refine hI _ ⟨k + 1, by omega, by omega, hk'⟩ (by dsimp only; omega) (by ((with_reducible show wk _ _); repeat' (first | exact trivial | exact eqSV_refl _ | (refine eqI ?_) | (refine eqS ?_) | (with_reducible exact rfl) | apply And.intro | exact Nat.zero_lt_one | exact Nat.le_of_ble_eq_true rfl | (with_reducible assumption) | ((show (_ : Int) = _); (try dsimp only); omega) | ((show eqSV _ _); simp [eqSV, isB, bval, *]; done) | rfl))); done) | trace_state
  · have hky := hend hb
    subst hky
    clear hend hnext hI
    have D1 := fun (j : Nat) (w' : World) => rmdays_any k j w' (by omega)
    generalize VaP.bef (k + 1) = A at *
    generalize VaP.bef k = BY at *
    generalize VaP.msum k = MS at *
    generalize VaP.mdays k = MD at *
    generalize VaP.ydays k = YD at *
    cases hl : VaP.leap k with
    | true =>
      rw [hl] at L hyq
      rw [if_pos rfl] at hyq
      repeat' (first | ((with_reducible first | show wpS _ _ _ _ | show putD _ _ _ _ | show putW _ _ _ _ | show splitG _ _ _ | show wpQ _ _ _ _ _ _ | show wpD _ _ _ _ _ _ _ | show wpX _ _ _ _ _ _ _ | show expX _ _ _ _ _ _ | show stepX _ _ _ _ | show keepR _ _ _ | show wpY _ _ _ _); conv => whnf) | ((with_reducible show RetN _ _ _); refine retB fun β => ?_) | ((with_reducible show _ ∧ _); first | (apply And.intro; (· intro h; exfalso; first | omega | (revert h; decide)); intro _) | (apply And.intro; rotate_left; (· intro h; exfalso; first | omega | (revert h; decide)); intro _) | (refine ⟨fun _ => ?_, fun _ => ?_⟩) | (apply And.intro; · kernel_rfl) | (apply And.intro; · (show inK _ _; unfold inK; omega)) | (apply And.intro; · (show (_ : Int) ≤ 9223372036854775807; (try simp only [List.length_append, List.length_drop, List.length_take, List.length_cons, List.length_nil]); omega))) | ((with_reducible show AllBe _); refine allBe fun βe => ?_; conv => whnf) | ((with_reducible show bothX _ _); refine bothI ?_ ?_; conv => whnf) | (with_reducible exact trivial) | ((with_reducible show CallN _ _ _ _ _ _ _ _); refine call_of env_ok rfl 1000 ?_) | ((with_reducible show XopN _ _ _ _ _ _); refine xop_of env_ok rfl 1000 ?_) | ((with_reducible show CallX _ _ _ _ _ _); first | (refine callX (.lit true) (by kernel_rfl) rfl (trivial) (fun β w hm => L w) ?_)) | ((with_reducible show OpX _ _ _ _); first | fail) | ((with_reducible show ∃ _ : SV, _); first | fail) | ((with_reducible show ∃ _, _); first | fail))
      all_goals first | (exfalso; omega) | skip
      refine loop env_ok rfl (T := {i : Nat // i ≤ m}) (fun t => ⟨[(0, .int .i64 ((n : Int) - (BY : Nat) - (MS t.1 : Nat))), (5, .int .i64 (k : Nat)), (7, .int .i64 ((t.1 : Nat) + 1))], [], 0, 35⟩) (fun t => m - t.1) ⟨0, Nat.zero_le _⟩ 1000 [] [] (fun _ => Nat.zero_le _) (by ((with_reducible show wk _ _); repeat' (first | exact trivial | exact eqSV_refl _ | (refine eqI ?_) | (refine eqS ?_) | (with_reducible exact rfl) | apply And.intro | exact Nat.zero_lt_one | exact Nat.le_of_ble_eq_true rfl | (with_reducible assumption) | ((show (_ : Int) = _); (try dsimp only); omega) | ((show eqSV _ _); simp [eqSV, isB, bval, *]; done) | rfl))) (fun t I hI => ?_)
      obtain ⟨i, hi⟩ := t
      dsimp only
      have h5 := hst i
      have h6 := hmd (i + 1)
      have h7 := hmm i
      have h8 := hms i
      have h9 : i = m → (n : Int) - (BY : Nat) - (MS i : Nat) ≤ (MD (i + 1) : Nat) := by rintro rfl; omega
      have D2 := D1 (i + 1)
      rw [show ((i + 1 : Nat) : Int) = (i : Int) + 1 from rfl] at D2
      repeat' (first | ((with_reducible first | show wpS _ _ _ _ | show putD _ _ _ _ | show putW _ _ _ _ | show splitG _ _ _ | show wpQ _ _ _ _ _ _ | show wpD _ _ _ _ _ _ _ | show wpX _ _ _ _ _ _ _ | show expX _ _ _ _ _ _ | show stepX _ _ _ _ | show keepR _ _ _ | show wpY _ _ _ _); conv => whnf) | ((with_reducible show RetN _ _ _); refine retB fun β => ?_) | ((with_reducible show _ ∧ _); first | (apply And.intro; (· intro h; exfalso; first | omega | (revert h; decide)); intro _) | (apply And.intro; rotate_left; (· intro h; exfalso; first | omega | (revert h; decide)); intro _) | (refine ⟨fun _ => ?_, fun _ => ?_⟩) | (apply And.intro; · kernel_rfl) | (apply And.intro; · (show inK _ _; unfold inK; omega)) | (apply And.intro; · (show (_ : Int) ≤ 9223372036854775807; (try simp only [List.length_append, List.length_drop, List.length_take, List.length_cons, List.length_nil]); omega))) | ((with_reducible show AllBe _); refine allBe fun βe => ?_; conv => whnf) | ((with_reducible show bothX _ _); refine bothI ?_ ?_; conv => whnf) | (with_reducible exact trivial) | ((with_reducible show CallN _ _ _ _ _ _ _ _); refine call_of env_ok rfl 1000 ?_) | ((with_reducible show XopN _ _ _ _ _ _); refine xop_of env_ok rfl 1000 ?_) | ((with_reducible show CallX _ _ _ _ _ _); first | (refine callX (.int .i64 (MD (i + 1) : Nat)) (by kernel_rfl) rfl (trivial) (fun β w hm => D2 w) ?_)) | ((with_reducible show OpX _ _ _ _); first | fail) | ((with_reducible show ∃ _ : SV, _); first | fail) | ((with_reducible show ∃ _, _); first | fail))
      all_goals first | (exfalso; omega) | (refine hI _ ⟨i + 1, by omega⟩ (by dsimp only; omega) (by ((with_reducible show wk _ _); repeat' (first | exact trivial | exact eqSV_refl _ | (refine eqI ?_) | (refine eqS ?_) | (with_reducible exact rfl) | apply And.intro | exact Nat.zero_lt_one | exact Nat.le_of_ble_eq_true rfl | (with_reducible assumption) | ((show (_ : Int) = _); (try dsimp only); omega) | ((show eqSV _ _); simp [eqSV, isB, bval, *]; done) | rfl))); done) | (have e : i = m := by { omega }; subst e; have e2 : (n : Int) - (BY : Nat) - (MS i : Nat) = (d : Nat) := by { omega }; rw [e2]; rfl) | trace_state
    | false =>
      rw [hl] at L hyq
      rw [if_neg Bool.false_ne_true] at hyq
      repeat' (first | ((with_reducible first | show wpS _ _ _ _ | show putD _ _ _ _ | show putW _ _ _ _ | show splitG _ _ _ | show wpQ _ _ _ _ _ _ | show wpD _ _ _ _ _ _ _ | show wpX _ _ _ _ _ _ _ | show expX _ _ _ _ _ _ | show stepX _ _ _ _ | show keepR _ _ _ | show wpY _ _ _ _); conv => whnf) | ((with_reducible show RetN _ _ _); refine retB fun β => ?_) | ((with_reducible show _ ∧ _); first | (apply And.intro; (· intro h; exfalso; first | omega | (revert h; decide)); intro _) | (apply And.intro; rotate_left; (· intro h; exfalso; first | omega | (revert h; decide)); intro _) | (refine ⟨fun _ => ?_, fun _ => ?_⟩) | (apply And.intro; · kernel_rfl) | (apply And.intro; · (show inK _ _; unfold inK; omega)) | (apply And.intro; · (show (_ : Int) ≤ 9223372036854775807; (try simp only [List.length_append, List.length_drop, List.length_take, List.length_cons, List.length_nil]); omega))) | ((with_reducible show AllBe _); refine allBe fun βe => ?_; conv => whnf) | ((with_reducible show bothX _ _); refine bothI ?_ ?_; conv => whnf) | (with_reducible exact trivial) | ((with_reducible show CallN _ _ _ _ _ _ _ _); refine call_of env_ok rfl 1000 ?_) | ((with_reducible show XopN _ _ _ _ _ _); refine xop_of env_ok rfl 1000 ?_) | ((with_reducible show CallX _ _ _ _ _ _); first | (refine callX (.lit false) (by kernel_rfl) rfl (trivial) (fun β w hm => L w) ?_)) | ((with_reducible show OpX _ _ _ _); first | fail) | ((with_reducible show ∃ _ : SV, _); first | fail) | ((with_reducible show ∃ _, _); first | fail))
      all_goals first | (exfalso; omega) | skip
      refine loop env_ok rfl (T := {i : Nat // i ≤ m}) (fun t => ⟨[(0, .int .i64 ((n : Int) - (BY : Nat) - (MS t.1 : Nat))), (5, .int .i64 (k : Nat)), (7, .int .i64 ((t.1 : Nat) + 1))], [], 0, 35⟩) (fun t => m - t.1) ⟨0, Nat.zero_le _⟩ 1000 [] [] (fun _ => Nat.zero_le _) (by ((with_reducible show wk _ _); repeat' (first | exact trivial | exact eqSV_refl _ | (refine eqI ?_) | (refine eqS ?_) | (with_reducible exact rfl) | apply And.intro | exact Nat.zero_lt_one | exact Nat.le_of_ble_eq_true rfl | (with_reducible assumption) | ((show (_ : Int) = _); (try dsimp only); omega) | ((show eqSV _ _); simp [eqSV, isB, bval, *]; done) | rfl))) (fun t I hI => ?_)
      obtain ⟨i, hi⟩ := t
      dsimp only
      have h5 := hst i
      have h6 := hmd (i + 1)
      have h7 := hmm i
      have h8 := hms i
      have h9 : i = m → (n : Int) - (BY : Nat) - (MS i : Nat) ≤ (MD (i + 1) : Nat) := by rintro rfl; omega
      have D2 := D1 (i + 1)
      rw [show ((i + 1 : Nat) : Int) = (i : Int) + 1 from rfl] at D2
      repeat' (first | ((with_reducible first | show wpS _ _ _ _ | show putD _ _ _ _ | show putW _ _ _ _ | show splitG _ _ _ | show wpQ _ _ _ _ _ _ | show wpD _ _ _ _ _ _ _ | show wpX _ _ _ _ _ _ _ | show expX _ _ _ _ _ _ | show stepX _ _ _ _ | show keepR _ _ _ | show wpY _ _ _ _); conv => whnf) | ((with_reducible show RetN _ _ _); refine retB fun β => ?_) | ((with_reducible show _ ∧ _); first | (apply And.intro; (· intro h; exfalso; first | omega | (revert h; decide)); intro _) | (apply And.intro; rotate_left; (· intro h; exfalso; first | omega | (revert h; decide)); intro _) | (refine ⟨fun _ => ?_, fun _ => ?_⟩) | (apply And.intro; · kernel_rfl) | (apply And.intro; · (show inK _ _; unfold inK; omega)) | (apply And.intro; · (show (_ : Int) ≤ 9223372036854775807; (try simp only [List.length_append, List.length_drop, List.length_take, List.length_cons, List.length_nil]); omega))) | ((with_reducible show AllBe _); refine allBe fun βe => ?_; conv => whnf) | ((with_reducible show bothX _ _); refine bothI ?_ ?_; conv => whnf) | (with_reducible exact trivial) | ((with_reducible show CallN _ _ _ _ _ _ _ _); refine call_of env_ok rfl 1000 ?_) | ((with_reducible show XopN _ _ _ _ _ _); refine xop_of env_ok rfl 1000 ?_) | ((with_reducible show CallX _ _ _ _ _ _); first | (refine callX (.int .i64 (MD (i + 1) : Nat)) (by kernel_rfl) rfl (trivial) (fun β w hm => D2 w) ?_)) | ((with_reducible show OpX _ _ _ _); first | fail) | ((with_reducible show ∃ _ : SV, _); first | fail) | ((with_reducible show ∃ _, _); first | fail))
      all_goals first | (exfalso; omega) | (refine hI _ ⟨i + 1, by omega⟩ (by dsimp only; omega) (by ((with_reducible show wk _ _); repeat' (first | exact trivial | exact eqSV_refl _ | (refine eqI ?_) | (refine eqS ?_) | (with_reducible exact rfl) | apply And.intro | exact Nat.zero_lt_one | exact Nat.le_of_ble_eq_true rfl | (with_reducible assumption) | ((show (_ : Int) = _); (try dsimp only); omega) | ((show eqSV _ _); simp [eqSV, isB, bval, *]; done) | rfl))); done) | (have e : i = m := by { omega }; subst e; have e2 : (n : Int) - (BY : Nat) - (MS i : Nat) = (d : Nat) := by { omega }; rw [e2]; rfl) | trace_state
end Go.Proofs.YtdkhkfdenlabaaaGreatDoor
namespace Go.Proofs.YtdkhkfdenlabaaaGreatDoor
open Go.RowKit
open Sym
theorem ExP.write_25 : ExP.writeE ⟨false, 25, 1⟩ = 0 ∧ ExP.writeE ⟨false, 25, 100⟩ = 0 ∧ ExP.writeF ⟨false, 25, 100⟩ = ([49], [52]) := by
  have h25 : ExP.nd 10 25 ≤ 300 := Nat.le_trans (ExP.nd_le (n := 2) (by omega) (by decide)) (by omega)
  have h100 : ExP.nd 10 100 ≤ 300 := Nat.le_trans (ExP.nd_le (n := 3) (by omega) (by decide)) (by omega)
  have h1 : ExP.nd 10 1 ≤ 300 := by rw [ExP.nd_one (by omega)]; omega
  have a := (ExP.write_ok (x := ⟨false, 25, 1⟩) rfl Nat.one_pos h25 h1).1
  have b := (ExP.write_ok (x := ⟨false, 25, 100⟩) rfl (by decide) h25 h100).1
  refine ⟨a, b, ?_⟩
  have hn : ¬ (⟨false, 25, 100⟩ : ExP.Num).n = 0 := by decide
  have ho : ¬ ExP.overP ⟨false, 25, 100⟩ := fun h => by
    unfold ExP.writeE at b
    rw [if_neg hn, if_pos h] at b; cases b
  unfold ExP.writeF
  rw [if_neg hn, if_neg ho]
  have e1 : ExP.redN ⟨false, 25, 100⟩ = 1 := by decide
  have e2 : ExP.redD ⟨false, 25, 100⟩ = 4 := by decide
  rw [e1, e2, Lib.decDigits_one (by omega), Lib.decDigits_one (by omega)]
  rfl
theorem VaP.num_25 : VaP.numV [50, 53, 37] = some ⟨false, 25, 100⟩ := by
  have h1 : VaP.numV [50, 53, 37] = VaP.numG [50, 53] true := by kernel_rfl
  have h2 : ExP.parE [50, 53] = 0 := by decide +kernel
  have h3 : ExP.decN [50, 53] = ⟨false, 25, 1⟩ := by rfl
  have h4 : ExP.scaleN ⟨false, 25, 1⟩ (-2) = ⟨false, 25, 100⟩ := by rfl
  obtain ⟨a, b, -⟩ := ExP.write_25
  rw [h1]
  unfold VaP.numG
  rw [h2, h3, h4, a, b]
  simp
theorem VaP.txt_25 : VaP.txtE [50, 53, 37] = 0 := by decide +kernel
theorem x_neBF {C : Ctx} {G : Blobs} {x y : Operand} {t u : TypeId} {va vb : SV} (a b : Bool) (ha : ∀ β, va.den β = .bool a) (hb : ∀ β, vb.den β = .bool b) (hc : a = b) (ht : C.P.underlying t = some .bool) : ExtN C G (.binOp .neq t x y u) [va, vb] (.lit false) := by
  have h := x_neBB (C := C) (G := G) (x := x) (y := y) (t := t) (u := u) (va := va) (vb := vb) a b ha hb ht
  subst hc
  rw [show (a != a) = false by simp] at h
  unfold ExtN at h ⊢
  exact h
section
attribute [local irreducible] Calls Sym.AggEq ExP.nd ExP.dig ExP.upd ExP.writeF ExP.writeE VaP.ftext
theorem enter_25 (w : World) (hw : XV w) : Calls Tryz.prog 11 #[.string (bstr [50, 53, 37])] w (IsV (VaP.numF ([49], [52])) w) := by
  obtain ⟨F, hF, hN⟩ := number_any [50, 53, 37] w hw (by decide) (by decide)
  have e := hF _ VaP.num_25
  rw [ExP.write_25.2.2] at e
  subst e
  rw [VaP.num_25] at hN
  have hE : ExP.readE (([49], [52]) : ExP.Fr) = 0 := by decide +kernel
  refine enter_num [50, 53, 37] [50, 53, 37] [49] [52] w hw (by decide) VaP.txt_25 (by decide) (by decide) (fun w' h => vlower_small _ w' (hw.below h).pos (by decide) (by decide)) (by decide) (by decide) ?_ hN (fun w' h => ?_)
  · intro i h1 h2
    rcases i with _ | _ | _ | _ | _ | _ | _ | _ | _ | i
    all_goals first | (exfalso; omega) | (unfold VaP.ftext; decide)
  · have := vnumber_any ([49], [52]) w' (hw.below h) (by decide) (by decide)
    rwa [if_pos hE] at this
set_option maxRecDepth 100000 in
theorem values_any (w : World) (hw : XV w) : Calls Tryz.prog 9 #[] w fun e w' => e = .returned (.bool true) ∧ Below w.heap.size w w' := by
  have N := fun (w' : World) (h : Below w.heap.size w w') => enter_25 w' (hw.below h)
  have S := fun (w' : World) => same_num ([49], [52]) w'
  refine enter env_ok Tryz.func9 rfl Tryz.results9 Tryz.ntmps9 [] [] [] trivial (Nat.le_of_ble_eq_true rfl) w _ 1000 ?_
  repeat' (first | ((with_reducible first | show wpS _ _ _ _ | show putD _ _ _ _ | show putW _ _ _ _ | show splitG _ _ _ | show wpQ _ _ _ _ _ _ | show wpD _ _ _ _ _ _ _ | show wpX _ _ _ _ _ _ _ | show expX _ _ _ _ _ _ | show stepX _ _ _ _ | show keepR _ _ _ | show wpY _ _ _ _); conv => whnf) | ((with_reducible show RetN _ _ _); refine retB fun β => ?_) | ((with_reducible show _ ∧ _); first | (apply And.intro; (· intro h; exfalso; first | omega | (revert h; decide)); intro _) | (apply And.intro; rotate_left; (· intro h; exfalso; first | omega | (revert h; decide)); intro _) | (refine ⟨fun _ => ?_, fun _ => ?_⟩) | (apply And.intro; · kernel_rfl) | (apply And.intro; · (show inK _ _; unfold inK; omega)) | (apply And.intro; · (show (_ : Int) ≤ 9223372036854775807; (try simp only [List.length_append, List.length_drop, List.length_take, List.length_cons, List.length_nil]); omega))) | ((with_reducible show AllBe _); refine allBe fun βe => ?_; conv => whnf) | ((with_reducible show bothX _ _); refine bothI ?_ ?_; conv => whnf) | (with_reducible exact trivial) | ((with_reducible show CallN _ _ _ _ _ _ _ _); refine call_of env_ok rfl 1000 ?_) | ((with_reducible show XopN _ _ _ _ _ _); refine xop_of env_ok rfl 1000 ?_) | ((with_reducible show CallX _ _ _ _ _ _); first | (refine callX (.agg [.int .i64 1, .str [49], .str [52], .str [], .lit false, .int .i64 0, .int .i64 0, .int .i64 0, .any (.slice none 0 0)]) (by kernel_rfl) rfl (⟨trivial, trivial, trivial, trivial, trivial, trivial, trivial, trivial, rfl, trivial⟩) (fun β w hm => N w hm.below) ?_) | (refine callX (.lit true) (by kernel_rfl) rfl (trivial) (fun β w hm => S w) ?_)) | ((with_reducible show OpX _ _ _ _); first | fail) | ((with_reducible show ∃ _ : SV, _); first | fail) | ((with_reducible show ∃ _, _); first | fail))
  all_goals first | rfl | trace_state
set_option maxRecDepth 100000 in
set_option maxHeartbeats 4000000 in
theorem calLaw_any (n y m d : Int) (w : World) (hw : XV w) (hn : -9223372036854775808 ≤ n ∧ n ≤ 9223372036854775807) : Calls Tryz.prog 5 #[.int .i64 n, .int .i64 y, .int .i64 m, .int .i64 d] w fun e w' => e = .returned (.bool true) ∧ Below w.heap.size w w' := by
  have V := fun (w' : World) (h : Below w.heap.size w w') => values_any w' (hw.below h)
  have D := fun (w' : World) => day_any y m d w'
  have R := fun (w' : World) => rday_any y m d w'
  have hp := VaP.dayV_pos y m d
  generalize VaP.dayV y m d = k at *
  obtain ⟨ok, hok⟩ : ∃ ok : Bool, ok = decide (VaP.dayP y m d) := ⟨_, rfl⟩
  rw [← hok] at D
  have hb : ok = decide (0 < k) := by rw [hok, decide_eq_decide]; exact hp.symm
  clear hok hp
  by_cases h : n < 1 ∨ 2958464 < n
  · have P := fun (w' : World) => date_no n w' h
    refine enter env_ok Tryz.func5 rfl Tryz.results5 Tryz.ntmps5 [] [] [.int .i64 n, .int .i64 y, .int .i64 m, .int .i64 d] (by simp [SV.oks, SV.ok]) (Nat.le_of_ble_eq_true rfl) w _ 1000 ?_
    repeat' (first | ((with_reducible first | show wpS _ _ _ _ | show putD _ _ _ _ | show putW _ _ _ _ | show splitG _ _ _ | show wpQ _ _ _ _ _ _ | show wpD _ _ _ _ _ _ _ | show wpX _ _ _ _ _ _ _ | show expX _ _ _ _ _ _ | show stepX _ _ _ _ | show keepR _ _ _ | show wpY _ _ _ _); conv => whnf) | ((with_reducible show RetN _ _ _); refine retB fun β => ?_) | ((with_reducible show _ ∧ _); first | (apply And.intro; (· intro h; exfalso; first | omega | (revert h; decide)); intro _) | (apply And.intro; rotate_left; (· intro h; exfalso; first | omega | (revert h; decide)); intro _) | (refine ⟨fun _ => ?_, fun _ => ?_⟩) | (apply And.intro; · kernel_rfl) | (apply And.intro; · (show inK _ _; unfold inK; omega)) | (apply And.intro; · (show (_ : Int) ≤ 9223372036854775807; (try simp only [List.length_append, List.length_drop, List.length_take, List.length_cons, List.length_nil]); omega))) | ((with_reducible show AllBe _); refine allBe fun βe => ?_; conv => whnf) | ((with_reducible show bothX _ _); refine bothI ?_ ?_; conv => whnf) | (with_reducible exact trivial) | ((with_reducible show CallN _ _ _ _ _ _ _ _); refine call_of env_ok rfl 1000 ?_) | ((with_reducible show XopN _ _ _ _ _ _); refine xop_of env_ok rfl 1000 ?_) | ((with_reducible show CallX _ _ _ _ _ _); first | (refine callX (.lit true) (by kernel_rfl) rfl (trivial) (fun β w hm => V w hm.below) ?_) | (refine callX (.tup [.int .i64 k, .bool ok]) (by kernel_rfl) rfl (⟨trivial, trivial, trivial⟩) (fun β w hm => D w) ?_) | (refine callX (.int .i64 k) (by kernel_rfl) rfl (trivial) (fun β w hm => R w) ?_) | (refine callX (.tup [.int .i64 0, .int .i64 0, .int .i64 0, .lit false]) (by kernel_rfl) rfl (⟨trivial, trivial, trivial, trivial, trivial⟩) (fun β w hm => P w) ?_)) | ((with_reducible show OpX _ _ _ _); first | fail) | ((with_reducible show ∃ _ : SV, _); first | (refine ⟨.lit false, ?ok, x_neBF ok (decide (0 < k)) (fun _ => rfl) (fun _ => rfl) hb Tryz.underlying4, ?_⟩; (case ok => exact fun _ _ => trivial))) | ((with_reducible show ∃ _, _); first | fail))
    all_goals first | (exfalso; omega) | rfl | (simp [SV.den]; done) | trace_state
  · obtain ⟨j, rfl⟩ : ∃ j : Nat, n = (j : Int) := ⟨n.toNat, by omega⟩
    obtain ⟨a, b, c, hI, -⟩ := date_yes j w (by omega) (by omega)
    have P : ∀ w' : World, Calls Tryz.prog 31 #[.int .i64 (j : Int)] w' fun e w'' => e = .returned (.tuple #[.int .i64 (a : Nat), .int .i64 ((b + 1 : Nat) : Int), .int .i64 (c : Nat), .bool true]) ∧ Below w'.heap.size w' w'' := fun w' => by
      obtain ⟨a', b', c', hI', h'⟩ := date_yes j w' (by omega) (by omega)
      obtain ⟨rfl, rfl, rfl⟩ := hI.one hI'
      exact h'
    have Q := fun (w' : World) => rdate_any j a b c w' (by omega) (by omega) hI
    clear hI
    refine enter env_ok Tryz.func5 rfl Tryz.results5 Tryz.ntmps5 [] [] [.int .i64 (j : Int), .int .i64 y, .int .i64 m, .int .i64 d] (by simp [SV.oks, SV.ok]) (Nat.le_of_ble_eq_true rfl) w _ 1000 ?_
    repeat' (first | ((with_reducible first | show wpS _ _ _ _ | show putD _ _ _ _ | show putW _ _ _ _ | show splitG _ _ _ | show wpQ _ _ _ _ _ _ | show wpD _ _ _ _ _ _ _ | show wpX _ _ _ _ _ _ _ | show expX _ _ _ _ _ _ | show stepX _ _ _ _ | show keepR _ _ _ | show wpY _ _ _ _); conv => whnf) | ((with_reducible show RetN _ _ _); refine retB fun β => ?_) | ((with_reducible show _ ∧ _); first | (apply And.intro; (· intro h; exfalso; first | omega | (revert h; decide)); intro _) | (apply And.intro; rotate_left; (· intro h; exfalso; first | omega | (revert h; decide)); intro _) | (refine ⟨fun _ => ?_, fun _ => ?_⟩) | (apply And.intro; · kernel_rfl) | (apply And.intro; · (show inK _ _; unfold inK; omega)) | (apply And.intro; · (show (_ : Int) ≤ 9223372036854775807; (try simp only [List.length_append, List.length_drop, List.length_take, List.length_cons, List.length_nil]); omega))) | ((with_reducible show AllBe _); refine allBe fun βe => ?_; conv => whnf) | ((with_reducible show bothX _ _); refine bothI ?_ ?_; conv => whnf) | (with_reducible exact trivial) | ((with_reducible show CallN _ _ _ _ _ _ _ _); refine call_of env_ok rfl 1000 ?_) | ((with_reducible show XopN _ _ _ _ _ _); refine xop_of env_ok rfl 1000 ?_) | ((with_reducible show CallX _ _ _ _ _ _); first | (refine callX (.lit true) (by kernel_rfl) rfl (trivial) (fun β w hm => V w hm.below) ?_) | (refine callX (.tup [.int .i64 k, .bool ok]) (by kernel_rfl) rfl (⟨trivial, trivial, trivial⟩) (fun β w hm => D w) ?_) | (refine callX (.int .i64 k) (by kernel_rfl) rfl (trivial) (fun β w hm => R w) ?_) | (refine callX (.tup [.int .i64 (a : Nat), .int .i64 ((b + 1 : Nat) : Int), .int .i64 (c : Nat), .lit true]) (by kernel_rfl) rfl (⟨trivial, trivial, trivial, trivial, trivial⟩) (fun β w hm => P w) ?_) | (refine callX (.tup [.int .i64 (a : Nat), .int .i64 ((b + 1 : Nat) : Int), .int .i64 (c : Nat)]) (by kernel_rfl) rfl (⟨trivial, trivial, trivial, trivial⟩) (fun β w hm => Q w) ?_)) | ((with_reducible show OpX _ _ _ _); first | fail) | ((with_reducible show ∃ _ : SV, _); first | (refine ⟨.lit false, ?ok, x_neBF ok (decide (0 < k)) (fun _ => rfl) (fun _ => rfl) hb Tryz.underlying4, ?_⟩; (case ok => exact fun _ _ => trivial))) | ((with_reducible show ∃ _, _); first | fail))
    all_goals first | (exfalso; omega) | rfl | (simp [SV.den]; done) | trace_state
end
end Go.Proofs.YtdkhkfdenlabaaaGreatDoor
namespace Go.Proofs.YtdkhkfdenlabaaaGreatDoor
open Go.ChangeShapes Go.WideShapes Go.ChangeAt Go.RowKit
theorem below_trodAll {H : Type} {enc : TypeId × Value → H} {P : Program} (hl : laidOutB P = true) {W W' : World} (hb : Below W.heap.size W W') :
    ∀ {ts : List TypeId} {vs : List Value} {ds : List (DataW H)} {ps : List MemPlace}, (ts.all fun t => P.readableRec t && decide (t < P.types.size)) = true →
      DataW.TrodAll enc P W 0 (fun _ => true) true ts vs ds ps → DataW.TrodAll enc P W' 0 (fun b => decide (b < W.heap.size)) true ts vs ds ps
  | [], [], [], _, _, h => h
  | [], _ :: _, _, _, _, h => h.elim
  | [], [], _ :: _, _, _, h => h.elim
  | _ :: _, [], _, _, _, h => h.elim
  | _ :: _, _ :: _, [], _, _, h => h.elim
  | t :: ts, v :: vs, d :: ds, ps, hr, h => by
    have hlt := h.lt
    obtain ⟨p, q, h1, h2, e⟩ := h
    simp only [List.all_cons, Bool.and_eq_true, decide_eq_true_eq] at hr
    exact ⟨p, q, Below.trod hl hr.1.1 hr.1.2 h1 hb (fun x hx => hlt x (by rw [e]; exact List.mem_append_left _ hx)), below_trodAll hl hb (by simpa using hr.2) h2, e⟩
theorem wf_i64 {n : Int} (h : (Lit.int .i64 n).wf = true) : -9223372036854775808 ≤ n ∧ n ≤ 9223372036854775807 := by
  simp [Lit.wf, IntKind.min, IntKind.max, IntKind.signed, IntKind.bits] at h
  omega
end Go.Proofs.YtdkhkfdenlabaaaGreatDoor
namespace Go.Proofs.YtdkhkfdenlabaaaGreatDoor
open Go.ChangeShapes Go.WideShapes Go.ChangeAt Go.RowKit Go.Deep
section
variable {H : Type} {enc : TypeId × Value → H} {P : Program} {w : World} {base : Nat} {spare : Nat → Bool} {held : Bool}
end
section
variable {H : Type} {enc : TypeId × Value → H} {w : World} {base : Nat} {spare : Nat → Bool} {held : Bool}
end
end Go.Proofs.YtdkhkfdenlabaaaGreatDoor
