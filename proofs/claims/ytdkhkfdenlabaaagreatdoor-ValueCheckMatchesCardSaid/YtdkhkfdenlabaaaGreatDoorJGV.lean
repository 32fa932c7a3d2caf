/- Values, the reference: characters. Values, the reference: errors of values. -/
import Derived.Test.YtdkhkfdenlabaaaGreatDoorJGI
import Derived.Test.YtdkhkfdenlabaaaGreatDoorJGT
import Derived.Test.YtdkhkfdenlabaaaGreatDoorJGS
set_option linter.unusedSimpArgs false
set_option linter.unusedVariables false
namespace Go.Proofs.YtdkhkfdenlabaaaGreatDoor
open Go.RowKit
open Sym
attribute [local irreducible] Calls Sym.AggEq ExP.nd ExP.dig ExP.upd ExP.writeF ExP.writeE
/-- a character's number, so many bytes read -/
def VaP.cvF (s : List UInt8) (c : Nat) : Nat → Nat
  | 0 => c
  | k + 1 => VaP.cvF s c k * 64 + VaP.bt s (k + 1) % 64
theorem VaP.cvF_le (s : List UInt8) (c : Nat) (hc : c ≤ 31) : VaP.cvF s c 0 ≤ 31 ∧ VaP.cvF s c 1 ≤ 2047 ∧ VaP.cvF s c 2 ≤ 131071 ∧ VaP.cvF s c 3 ≤ 8388607 := by
  refine ⟨hc, ?_, ?_, ?_⟩
  · show c * 64 + VaP.bt s 1 % 64 ≤ _; omega
  · show (c * 64 + VaP.bt s 1 % 64) * 64 + VaP.bt s 2 % 64 ≤ _; omega
  · show ((c * 64 + VaP.bt s 1 % 64) * 64 + VaP.bt s 2 % 64) * 64 + VaP.bt s 3 % 64 ≤ _; omega
set_option maxRecDepth 100000 in
set_option maxHeartbeats 4000000 in
theorem rrune_2 (s : List UInt8) (R1 R2 : Nat) (w : World) (hs : s ≠ []) (hl : s.length ≤ 9223372036854775807) (h1 : 194 ≤ VaP.bt s 0) (h2 : VaP.bt s 0 < 224) (C : Nat) (hC : C = VaP.cvF s (VaP.bt s 0 % 32) 1)
    (hG : 2 ≤ s.length → (∀ j, 1 ≤ j → j < 2 → VaP.bt s j / 64 = 2) → 128 ≤ C → (C < 55296 ∨ 57344 ≤ C) → C ≤ 1114111 → R1 = C ∧ R2 = 2)
    (hB : ¬ (2 ≤ s.length ∧ (∀ j, 1 ≤ j → j < 2 → VaP.bt s j / 64 = 2) ∧ 128 ≤ C ∧ (C < 55296 ∨ 57344 ≤ C) ∧ C ≤ 1114111) → R1 = 0 ∧ R2 = 0) :
    Calls Tryz.prog 120 #[.string (bstr s)] w fun e w' => e = .returned (.tuple #[.int .i64 (R1 : Nat), .int .i64 (R2 : Nat)]) ∧ Below w.heap.size w w' := by
  have hl0 := List.length_pos_iff.2 hs
  have hbt := VaP.bt_lt s
  have hcv := VaP.cvF_le s (VaP.bt s 0 % 32) (by omega)
  have hst : ∀ k, VaP.cvF s (VaP.bt s 0 % 32) (k + 1) = VaP.cvF s (VaP.bt s 0 % 32) k * 64 + VaP.bt s (k + 1) % 64 := fun _ => rfl
  have hz : VaP.cvF s (VaP.bt s 0 % 32) 0 = VaP.bt s 0 % 32 := rfl
  have hget : ∀ j, (s.getD j 0).toNat = VaP.bt s j := fun _ => rfl
  generalize VaP.cvF s (VaP.bt s 0 % 32) = CV at *
  generalize VaP.bt s = B at *
  have hg0 := hget 0
  have hb0 := hbt 0
  refine enter env_ok Tryz.func120 rfl Tryz.results120 Tryz.ntmps120 [] [] [.str s] (by simp [SV.oks, SV.ok]) (Nat.le_of_ble_eq_true rfl) w _ 1000 ?_
  repeat' (first | ((with_reducible first | show wpS .. | show putD .. | show putW .. | show splitG .. | show wpQ .. | show wpD .. | show wpX .. | show expX .. | show stepX .. | show keepR .. | show wpY ..); conv => whnf) | ((with_reducible show RetN ..); refine retB fun β => ?_) | ((with_reducible show _ ∧ _); first | (refine ⟨fun h => absurd h (by first | omega | decide), fun _ => ?_⟩) | (refine ⟨fun _ => ?_, fun h => absurd h (by first | omega | decide)⟩) | (refine ⟨fun _ => ?_, fun _ => ?_⟩) | (apply And.intro; · kernel_rfl) | (apply And.intro; · (show inK _ _; unfold inK; omega)) | (apply And.intro; · (show (_ : Int) ≤ 9223372036854775807; (try simp only [lenS]); omega))) | ((with_reducible show AllBe ..); refine allBe fun βe => ?_; conv => whnf) | ((with_reducible show bothX ..); refine bothI ?_ ?_; conv => whnf) | (with_reducible exact trivial) | ((with_reducible show CallN ..); refine call_of env_ok rfl 1000 ?_) | ((with_reducible show XopN ..); refine xop_of env_ok rfl 1000 ?_) | ((with_reducible show CallX ..); first | fail) | ((with_reducible show OpX ..); first | fail) | ((with_reducible show ∃ _ : SV, _); first | (refine ⟨.int .i64 ((B 0 % 32 : Nat) : Int), ?ok, x_and _ (by rw [hget 0]; exact Bi.i64_and (B 0) 31 _ (by have := hbt 0; omega) (by omega) (Bi.and_31 _)), ?_⟩; (case ok => exact fun _ _ => trivial))) | ((with_reducible show ∃ _, _); first | (refine ⟨0, rfl, hl0, ?_⟩)))
  all_goals first | (exfalso; have := hget 0; omega) | (obtain ⟨rfl, rfl⟩ := hB (fun h => by have := h.1; omega); rfl) | skip
  refine loop env_ok rfl (T := {k : Nat // k + 1 ≤ 2 ∧ ∀ j, 1 ≤ j → j < k + 1 → B j / 64 = 2}) (fun t => ⟨[(0, .str s), (4, .int .i64 (CV t.1 : Nat)), (5, .int .i64 2), (6, .int .i64 128), (7, .int .i64 ((t.1 : Nat) + 1))], [], 0, 81⟩) (fun t => 2 - t.1) ⟨0, by omega, fun j h1 h2 => by omega⟩ 1000 [] [] (fun _ => Nat.zero_le _) (by ((with_reducible show wk _ _); repeat' (first | exact trivial | exact eqSV_refl _ | (refine eqI ?_) | (refine eqS ?_) | (with_reducible exact rfl) | apply And.intro | exact Nat.zero_lt_one | exact Nat.le_of_ble_eq_true rfl | (with_reducible assumption) | ((show (_ : Int) = _); (try dsimp only); omega) | ((show eqSV _ _); simp [eqSV, isB, bval, *]; done) | rfl))) (fun t I hI => ?_)
  obtain ⟨k, hk, hj⟩ := t
  dsimp only
  have hk3 : k ≤ 3 := by omega
  have hcvk : CV k ≤ 8388607 := by
    have : k = 0 ∨ k = 1 ∨ k = 2 ∨ k = 3 := by omega
    rcases this with rfl | rfl | rfl | rfl <;> omega
  have hb1 := hbt (k + 1)
  have hs1 := hst k
  have hg1 := hget (k + 1)
  by_cases hlt : k + 1 < 2
  · repeat' (first | ((with_reducible first | show wpS .. | show putD .. | show putW .. | show splitG .. | show wpQ .. | show wpD .. | show wpX .. | show expX .. | show stepX .. | show keepR .. | show wpY ..); conv => whnf) | ((with_reducible show RetN ..); refine retB fun β => ?_) | ((with_reducible show _ ∧ _); first | (refine ⟨fun h => absurd h (by first | omega | decide), fun _ => ?_⟩) | (refine ⟨fun _ => ?_, fun h => absurd h (by first | omega | decide)⟩) | (refine ⟨fun _ => ?_, fun _ => ?_⟩) | (apply And.intro; · kernel_rfl) | (apply And.intro; · (show inK _ _; unfold inK; omega)) | (apply And.intro; · (show (_ : Int) ≤ 9223372036854775807; (try simp only [lenS]); omega))) | ((with_reducible show AllBe ..); refine allBe fun βe => ?_; conv => whnf) | ((with_reducible show bothX ..); refine bothI ?_ ?_; conv => whnf) | (with_reducible exact trivial) | ((with_reducible show CallN ..); refine call_of env_ok rfl 1000 ?_) | ((with_reducible show XopN ..); refine xop_of env_ok rfl 1000 ?_) | ((with_reducible show CallX ..); first | fail) | ((with_reducible show OpX ..); first | fail) | ((with_reducible show ∃ _ : SV, _); first | (refine ⟨.int .u8 ((B (k + 1) / 64 * 64 : Nat) : Int), ?ok, x_and _ (by rw [hg1]; exact Bi.u8_and (B (k + 1)) 192 _ (by omega) (by omega) (Bi.and_192 _ (by omega))), ?_⟩; (case ok => exact fun _ _ => trivial)) | (refine ⟨.int .u8 ((B (k + 1) % 64 : Nat) : Int), ?ok, x_and _ (by rw [hg1]; exact Bi.u8_and (B (k + 1)) 63 _ (by omega) (by omega) (Bi.and_63 _)), ?_⟩; (case ok => exact fun _ _ => trivial)) | (refine ⟨.int .i64 ((CV k * 64 : Nat) : Int), ?ok, x_shlE 6 _ rfl (by rw [Int.natCast_mul]; rfl) (by decide) (by simp only [inK]; omega), ?_⟩; (case ok => exact fun _ _ => trivial)) | (refine ⟨.int .i64 ((CV k * 64 + B (k + 1) % 64 : Nat) : Int), ?ok, x_or _ (Bi.i64_or (CV k * 64) (B (k + 1) % 64) _ (by omega) (by omega) (Bi.or_64 _ _ (by omega))), ?_⟩; (case ok => exact fun _ _ => trivial))) | ((with_reducible show ∃ _, _); first | (refine ⟨k + 1, rfl, by omega, ?_⟩)))
    all_goals first | (exfalso; omega) | (obtain ⟨rfl, rfl⟩ := hB (fun h => by have := h.2.1 (k + 1) (by omega) hlt; omega); rfl) | (rw [← hs1]; refine hI _ ⟨k + 1, by omega, fun j h1 h2 => (Nat.lt_or_ge j (k + 1)).elim (fun h => hj j h1 h) (fun h => by { have e : j = k + 1 := by { omega }; rw [e]; omega })⟩ (by dsimp only; omega) (by ((with_reducible show wk _ _); repeat' (first | exact trivial | exact eqSV_refl _ | (refine eqI ?_) | (refine eqS ?_) | (with_reducible exact rfl) | apply And.intro | exact Nat.zero_lt_one | exact Nat.le_of_ble_eq_true rfl | (with_reducible assumption) | ((show (_ : Int) = _); (try dsimp only); omega) | ((show eqSV _ _); simp [eqSV, isB, bval, *]; done) | rfl))); done) | trace_state
  · have e : k = 1 := by omega
    subst e
    rw [← hC] at *
    repeat' (first | ((with_reducible first | show wpS .. | show putD .. | show putW .. | show splitG .. | show wpQ .. | show wpD .. | show wpX .. | show expX .. | show stepX .. | show keepR .. | show wpY ..); conv => whnf) | ((with_reducible show RetN ..); refine retB fun β => ?_) | ((with_reducible show _ ∧ _); first | (refine ⟨fun h => absurd h (by first | omega | decide), fun _ => ?_⟩) | (refine ⟨fun _ => ?_, fun h => absurd h (by first | omega | decide)⟩) | (refine ⟨fun _ => ?_, fun _ => ?_⟩) | (apply And.intro; · kernel_rfl) | (apply And.intro; · (show inK _ _; unfold inK; omega)) | (apply And.intro; · (show (_ : Int) ≤ 9223372036854775807; (try simp only [lenS]); omega))) | ((with_reducible show AllBe ..); refine allBe fun βe => ?_; conv => whnf) | ((with_reducible show bothX ..); refine bothI ?_ ?_; conv => whnf) | (with_reducible exact trivial) | ((with_reducible show CallN ..); refine call_of env_ok rfl 1000 ?_) | ((with_reducible show XopN ..); refine xop_of env_ok rfl 1000 ?_) | ((with_reducible show CallX ..); first | fail) | ((with_reducible show OpX ..); first | fail) | ((with_reducible show ∃ _ : SV, _); first | fail) | ((with_reducible show ∃ _, _); first | fail))
    all_goals first | (exfalso; omega) | (obtain ⟨rfl, rfl⟩ := hB (fun h => by have := h.2.2; omega); rfl) | (obtain ⟨rfl, rfl⟩ := hG (by omega) hj (by omega) (by omega) (by omega); rfl) | trace_state
set_option maxRecDepth 100000 in
set_option maxHeartbeats 4000000 in
theorem rrune_3 (s : List UInt8) (R1 R2 : Nat) (w : World) (hs : s ≠ []) (hl : s.length ≤ 9223372036854775807) (h1 : 224 ≤ VaP.bt s 0) (h2 : VaP.bt s 0 < 240) (C : Nat) (hC : C = VaP.cvF s (VaP.bt s 0 % 16) 2)
    (hG : 3 ≤ s.length → (∀ j, 1 ≤ j → j < 3 → VaP.bt s j / 64 = 2) → 2048 ≤ C → (C < 55296 ∨ 57344 ≤ C) → C ≤ 1114111 → R1 = C ∧ R2 = 3)
    (hB : ¬ (3 ≤ s.length ∧ (∀ j, 1 ≤ j → j < 3 → VaP.bt s j / 64 = 2) ∧ 2048 ≤ C ∧ (C < 55296 ∨ 57344 ≤ C) ∧ C ≤ 1114111) → R1 = 0 ∧ R2 = 0) :
    Calls Tryz.prog 120 #[.string (bstr s)] w fun e w' => e = .returned (.tuple #[.int .i64 (R1 : Nat), .int .i64 (R2 : Nat)]) ∧ Below w.heap.size w w' := by
  have hl0 := List.length_pos_iff.2 hs
  have hbt := VaP.bt_lt s
  have hcv := VaP.cvF_le s (VaP.bt s 0 % 16) (by omega)
  have hst : ∀ k, VaP.cvF s (VaP.bt s 0 % 16) (k + 1) = VaP.cvF s (VaP.bt s 0 % 16) k * 64 + VaP.bt s (k + 1) % 64 := fun _ => rfl
  have hz : VaP.cvF s (VaP.bt s 0 % 16) 0 = VaP.bt s 0 % 16 := rfl
  have hget : ∀ j, (s.getD j 0).toNat = VaP.bt s j := fun _ => rfl
  generalize VaP.cvF s (VaP.bt s 0 % 16) = CV at *
  generalize VaP.bt s = B at *
  have hg0 := hget 0
  have hb0 := hbt 0
  refine enter env_ok Tryz.func120 rfl Tryz.results120 Tryz.ntmps120 [] [] [.str s] (by simp [SV.oks, SV.ok]) (Nat.le_of_ble_eq_true rfl) w _ 1000 ?_
  repeat' (first | ((with_reducible first | show wpS .. | show putD .. | show putW .. | show splitG .. | show wpQ .. | show wpD .. | show wpX .. | show expX .. | show stepX .. | show keepR .. | show wpY ..); conv => whnf) | ((with_reducible show RetN ..); refine retB fun β => ?_) | ((with_reducible show _ ∧ _); first | (refine ⟨fun h => absurd h (by first | omega | decide), fun _ => ?_⟩) | (refine ⟨fun _ => ?_, fun h => absurd h (by first | omega | decide)⟩) | (refine ⟨fun _ => ?_, fun _ => ?_⟩) | (apply And.intro; · kernel_rfl) | (apply And.intro; · (show inK _ _; unfold inK; omega)) | (apply And.intro; · (show (_ : Int) ≤ 9223372036854775807; (try simp only [lenS]); omega))) | ((with_reducible show AllBe ..); refine allBe fun βe => ?_; conv => whnf) | ((with_reducible show bothX ..); refine bothI ?_ ?_; conv => whnf) | (with_reducible exact trivial) | ((with_reducible show CallN ..); refine call_of env_ok rfl 1000 ?_) | ((with_reducible show XopN ..); refine xop_of env_ok rfl 1000 ?_) | ((with_reducible show CallX ..); first | fail) | ((with_reducible show OpX ..); first | fail) | ((with_reducible show ∃ _ : SV, _); first | (refine ⟨.int .i64 ((B 0 % 16 : Nat) : Int), ?ok, x_and _ (by rw [hget 0]; exact Bi.i64_and (B 0) 15 _ (by have := hbt 0; omega) (by omega) (Bi.and_15 _)), ?_⟩; (case ok => exact fun _ _ => trivial))) | ((with_reducible show ∃ _, _); first | (refine ⟨0, rfl, hl0, ?_⟩)))
  all_goals first | (exfalso; have := hget 0; omega) | (obtain ⟨rfl, rfl⟩ := hB (fun h => by have := h.1; omega); rfl) | skip
  refine loop env_ok rfl (T := {k : Nat // k + 1 ≤ 3 ∧ ∀ j, 1 ≤ j → j < k + 1 → B j / 64 = 2}) (fun t => ⟨[(0, .str s), (4, .int .i64 (CV t.1 : Nat)), (5, .int .i64 3), (6, .int .i64 2048), (7, .int .i64 ((t.1 : Nat) + 1))], [], 0, 81⟩) (fun t => 3 - t.1) ⟨0, by omega, fun j h1 h2 => by omega⟩ 1000 [] [] (fun _ => Nat.zero_le _) (by ((with_reducible show wk _ _); repeat' (first | exact trivial | exact eqSV_refl _ | (refine eqI ?_) | (refine eqS ?_) | (with_reducible exact rfl) | apply And.intro | exact Nat.zero_lt_one | exact Nat.le_of_ble_eq_true rfl | (with_reducible assumption) | ((show (_ : Int) = _); (try dsimp only); omega) | ((show eqSV _ _); simp [eqSV, isB, bval, *]; done) | rfl))) (fun t I hI => ?_)
  obtain ⟨k, hk, hj⟩ := t
  dsimp only
  have hk3 : k ≤ 3 := by omega
  have hcvk : CV k ≤ 8388607 := by
    have : k = 0 ∨ k = 1 ∨ k = 2 ∨ k = 3 := by omega
    rcases this with rfl | rfl | rfl | rfl <;> omega
  have hb1 := hbt (k + 1)
  have hs1 := hst k
  have hg1 := hget (k + 1)
  by_cases hlt : k + 1 < 3
  · repeat' (first | ((with_reducible first | show wpS .. | show putD .. | show putW .. | show splitG .. | show wpQ .. | show wpD .. | show wpX .. | show expX .. | show stepX .. | show keepR .. | show wpY ..); conv => whnf) | ((with_reducible show RetN ..); refine retB fun β => ?_) | ((with_reducible show _ ∧ _); first | (refine ⟨fun h => absurd h (by first | omega | decide), fun _ => ?_⟩) | (refine ⟨fun _ => ?_, fun h => absurd h (by first | omega | decide)⟩) | (refine ⟨fun _ => ?_, fun _ => ?_⟩) | (apply And.intro; · kernel_rfl) | (apply And.intro; · (show inK _ _; unfold inK; omega)) | (apply And.intro; · (show (_ : Int) ≤ 9223372036854775807; (try simp only [lenS]); omega))) | ((with_reducible show AllBe ..); refine allBe fun βe => ?_; conv => whnf) | ((with_reducible show bothX ..); refine bothI ?_ ?_; conv => whnf) | (with_reducible exact trivial) | ((with_reducible show CallN ..); refine call_of env_ok rfl 1000 ?_) | ((with_reducible show XopN ..); refine xop_of env_ok rfl 1000 ?_) | ((with_reducible show CallX ..); first | fail) | ((with_reducible show OpX ..); first | fail) | ((with_reducible show ∃ _ : SV, _); first | (refine ⟨.int .u8 ((B (k + 1) / 64 * 64 : Nat) : Int), ?ok, x_and _ (by rw [hg1]; exact Bi.u8_and (B (k + 1)) 192 _ (by omega) (by omega) (Bi.and_192 _ (by omega))), ?_⟩; (case ok => exact fun _ _ => trivial)) | (refine ⟨.int .u8 ((B (k + 1) % 64 : Nat) : Int), ?ok, x_and _ (by rw [hg1]; exact Bi.u8_and (B (k + 1)) 63 _ (by omega) (by omega) (Bi.and_63 _)), ?_⟩; (case ok => exact fun _ _ => trivial)) | (refine ⟨.int .i64 ((CV k * 64 : Nat) : Int), ?ok, x_shlE 6 _ rfl (by rw [Int.natCast_mul]; rfl) (by decide) (by simp only [inK]; omega), ?_⟩; (case ok => exact fun _ _ => trivial)) | (refine ⟨.int .i64 ((CV k * 64 + B (k + 1) % 64 : Nat) : Int), ?ok, x_or _ (Bi.i64_or (CV k * 64) (B (k + 1) % 64) _ (by omega) (by omega) (Bi.or_64 _ _ (by omega))), ?_⟩; (case ok => exact fun _ _ => trivial))) | ((with_reducible show ∃ _, _); first | (refine ⟨k + 1, rfl, by omega, ?_⟩)))
    all_goals first | (exfalso; omega) | (obtain ⟨rfl, rfl⟩ := hB (fun h => by have := h.2.1 (k + 1) (by omega) hlt; omega); rfl) | (rw [← hs1]; refine hI _ ⟨k + 1, by omega, fun j h1 h2 => (Nat.lt_or_ge j (k + 1)).elim (fun h => hj j h1 h) (fun h => by { have e : j = k + 1 := by { omega }; rw [e]; omega })⟩ (by dsimp only; omega) (by ((with_reducible show wk _ _); repeat' (first | exact trivial | exact eqSV_refl _ | (refine eqI ?_) | (refine eqS ?_) | (with_reducible exact rfl) | apply And.intro | exact Nat.zero_lt_one | exact Nat.le_of_ble_eq_true rfl | (with_reducible assumption) | ((show (_ : Int) = _); (try dsimp only); omega) | ((show eqSV _ _); simp [eqSV, isB, bval, *]; done) | rfl))); done) | trace_state
  · have e : k = 2 := by omega
    subst e
    rw [← hC] at *
    repeat' (first | ((with_reducible first | show wpS .. | show putD .. | show putW .. | show splitG .. | show wpQ .. | show wpD .. | show wpX .. | show expX .. | show stepX .. | show keepR .. | show wpY ..); conv => whnf) | ((with_reducible show RetN ..); refine retB fun β => ?_) | ((with_reducible show _ ∧ _); first | (refine ⟨fun h => absurd h (by first | omega | decide), fun _ => ?_⟩) | (refine ⟨fun _ => ?_, fun h => absurd h (by first | omega | decide)⟩) | (refine ⟨fun _ => ?_, fun _ => ?_⟩) | (apply And.intro; · kernel_rfl) | (apply And.intro; · (show inK _ _; unfold inK; omega)) | (apply And.intro; · (show (_ : Int) ≤ 9223372036854775807; (try simp only [lenS]); omega))) | ((with_reducible show AllBe ..); refine allBe fun βe => ?_; conv => whnf) | ((with_reducible show bothX ..); refine bothI ?_ ?_; conv => whnf) | (with_reducible exact trivial) | ((with_reducible show CallN ..); refine call_of env_ok rfl 1000 ?_) | ((with_reducible show XopN ..); refine xop_of env_ok rfl 1000 ?_) | ((with_reducible show CallX ..); first | fail) | ((with_reducible show OpX ..); first | fail) | ((with_reducible show ∃ _ : SV, _); first | fail) | ((with_reducible show ∃ _, _); first | fail))
    all_goals first | (exfalso; omega) | (obtain ⟨rfl, rfl⟩ := hB (fun h => by have := h.2.2; omega); rfl) | (obtain ⟨rfl, rfl⟩ := hG (by omega) hj (by omega) (by omega) (by omega); rfl) | trace_state
set_option maxRecDepth 100000 in
set_option maxHeartbeats 4000000 in
theorem rrune_4 (s : List UInt8) (R1 R2 : Nat) (w : World) (hs : s ≠ []) (hl : s.length ≤ 9223372036854775807) (h1 : 240 ≤ VaP.bt s 0) (h2 : VaP.bt s 0 < 245) (C : Nat) (hC : C = VaP.cvF s (VaP.bt s 0 % 8) 3)
    (hG : 4 ≤ s.length → (∀ j, 1 ≤ j → j < 4 → VaP.bt s j / 64 = 2) → 65536 ≤ C → (C < 55296 ∨ 57344 ≤ C) → C ≤ 1114111 → R1 = C ∧ R2 = 4)
    (hB : ¬ (4 ≤ s.length ∧ (∀ j, 1 ≤ j → j < 4 → VaP.bt s j / 64 = 2) ∧ 65536 ≤ C ∧ (C < 55296 ∨ 57344 ≤ C) ∧ C ≤ 1114111) → R1 = 0 ∧ R2 = 0) :
    Calls Tryz.prog 120 #[.string (bstr s)] w fun e w' => e = .returned (.tuple #[.int .i64 (R1 : Nat), .int .i64 (R2 : Nat)]) ∧ Below w.heap.size w w' := by
  have hl0 := List.length_pos_iff.2 hs
  have hbt := VaP.bt_lt s
  have hcv := VaP.cvF_le s (VaP.bt s 0 % 8) (by omega)
  have hst : ∀ k, VaP.cvF s (VaP.bt s 0 % 8) (k + 1) = VaP.cvF s (VaP.bt s 0 % 8) k * 64 + VaP.bt s (k + 1) % 64 := fun _ => rfl
  have hz : VaP.cvF s (VaP.bt s 0 % 8) 0 = VaP.bt s 0 % 8 := rfl
  have hget : ∀ j, (s.getD j 0).toNat = VaP.bt s j := fun _ => rfl
  generalize VaP.cvF s (VaP.bt s 0 % 8) = CV at *
  generalize VaP.bt s = B at *
  have hg0 := hget 0
  have hb0 := hbt 0
  refine enter env_ok Tryz.func120 rfl Tryz.results120 Tryz.ntmps120 [] [] [.str s] (by simp [SV.oks, SV.ok]) (Nat.le_of_ble_eq_true rfl) w _ 1000 ?_
  repeat' (first | ((with_reducible first | show wpS .. | show putD .. | show putW .. | show splitG .. | show wpQ .. | show wpD .. | show wpX .. | show expX .. | show stepX .. | show keepR .. | show wpY ..); conv => whnf) | ((with_reducible show RetN ..); refine retB fun β => ?_) | ((with_reducible show _ ∧ _); first | (refine ⟨fun h => absurd h (by first | omega | decide), fun _ => ?_⟩) | (refine ⟨fun _ => ?_, fun h => absurd h (by first | omega | decide)⟩) | (refine ⟨fun _ => ?_, fun _ => ?_⟩) | (apply And.intro; · kernel_rfl) | (apply And.intro; · (show inK _ _; unfold inK; omega)) | (apply And.intro; · (show (_ : Int) ≤ 9223372036854775807; (try simp only [lenS]); omega))) | ((with_reducible show AllBe ..); refine allBe fun βe => ?_; conv => whnf) | ((with_reducible show bothX ..); refine bothI ?_ ?_; conv => whnf) | (with_reducible exact trivial) | ((with_reducible show CallN ..); refine call_of env_ok rfl 1000 ?_) | ((with_reducible show XopN ..); refine xop_of env_ok rfl 1000 ?_) | ((with_reducible show CallX ..); first | fail) | ((with_reducible show OpX ..); first | fail) | ((with_reducible show ∃ _ : SV, _); first | (refine ⟨.int .i64 ((B 0 % 8 : Nat) : Int), ?ok, x_and _ (by rw [hget 0]; exact Bi.i64_and (B 0) 7 _ (by have := hbt 0; omega) (by omega) (Bi.and_7 _)), ?_⟩; (case ok => exact fun _ _ => trivial))) | ((with_reducible show ∃ _, _); first | (refine ⟨0, rfl, hl0, ?_⟩)))
  all_goals first | (exfalso; have := hget 0; omega) | (obtain ⟨rfl, rfl⟩ := hB (fun h => by have := h.1; omega); rfl) | skip
  refine loop env_ok rfl (T := {k : Nat // k + 1 ≤ 4 ∧ ∀ j, 1 ≤ j → j < k + 1 → B j / 64 = 2}) (fun t => ⟨[(0, .str s), (4, .int .i64 (CV t.1 : Nat)), (5, .int .i64 4), (6, .int .i64 65536), (7, .int .i64 ((t.1 : Nat) + 1))], [], 0, 81⟩) (fun t => 4 - t.1) ⟨0, by omega, fun j h1 h2 => by omega⟩ 1000 [] [] (fun _ => Nat.zero_le _) (by ((with_reducible show wk _ _); repeat' (first | exact trivial | exact eqSV_refl _ | (refine eqI ?_) | (refine eqS ?_) | (with_reducible exact rfl) | apply And.intro | exact Nat.zero_lt_one | exact Nat.le_of_ble_eq_true rfl | (with_reducible assumption) | ((show (_ : Int) = _); (try dsimp only); omega) | ((show eqSV _ _); simp [eqSV, isB, bval, *]; done) | rfl))) (fun t I hI => ?_)
  obtain ⟨k, hk, hj⟩ := t
  dsimp only
  have hk3 : k ≤ 3 := by omega
  have hcvk : CV k ≤ 8388607 := by
    have : k = 0 ∨ k = 1 ∨ k = 2 ∨ k = 3 := by omega
    rcases this with rfl | rfl | rfl | rfl <;> omega
  have hb1 := hbt (k + 1)
  have hs1 := hst k
  have hg1 := hget (k + 1)
  by_cases hlt : k + 1 < 4
  · repeat' (first | ((with_reducible first | show wpS .. | show putD .. | show putW .. | show splitG .. | show wpQ .. | show wpD .. | show wpX .. | show expX .. | show stepX .. | show keepR .. | show wpY ..); conv => whnf) | ((with_reducible show RetN ..); refine retB fun β => ?_) | ((with_reducible show _ ∧ _); first | (refine ⟨fun h => absurd h (by first | omega | decide), fun _ => ?_⟩) | (refine ⟨fun _ => ?_, fun h => absurd h (by first | omega | decide)⟩) | (refine ⟨fun _ => ?_, fun _ => ?_⟩) | (apply And.intro; · kernel_rfl) | (apply And.intro; · (show inK _ _; unfold inK; omega)) | (apply And.intro; · (show (_ : Int) ≤ 9223372036854775807; (try simp only [lenS]); omega))) | ((with_reducible show AllBe ..); refine allBe fun βe => ?_; conv => whnf) | ((with_reducible show bothX ..); refine bothI ?_ ?_; conv => whnf) | (with_reducible exact trivial) | ((with_reducible show CallN ..); refine call_of env_ok rfl 1000 ?_) | ((with_reducible show XopN ..); refine xop_of env_ok rfl 1000 ?_) | ((with_reducible show CallX ..); first | fail) | ((with_reducible show OpX ..); first | fail) | ((with_reducible show ∃ _ : SV, _); first | (refine ⟨.int .u8 ((B (k + 1) / 64 * 64 : Nat) : Int), ?ok, x_and _ (by rw [hg1]; exact Bi.u8_and (B (k + 1)) 192 _ (by omega) (by omega) (Bi.and_192 _ (by omega))), ?_⟩; (case ok => exact fun _ _ => trivial)) | (refine ⟨.int .u8 ((B (k + 1) % 64 : Nat) : Int), ?ok, x_and _ (by rw [hg1]; exact Bi.u8_and (B (k + 1)) 63 _ (by omega) (by omega) (Bi.and_63 _)), ?_⟩; (case ok => exact fun _ _ => trivial)) | (refine ⟨.int .i64 ((CV k * 64 : Nat) : Int), ?ok, x_shlE 6 _ rfl (by rw [Int.natCast_mul]; rfl) (by decide) (by simp only [inK]; omega), ?_⟩; (case ok => exact fun _ _ => trivial)) | (refine ⟨.int .i64 ((CV k * 64 + B (k + 1) % 64 : Nat) : Int), ?ok, x_or _ (Bi.i64_or (CV k * 64) (B (k + 1) % 64) _ (by omega) (by omega) (Bi.or_64 _ _ (by omega))), ?_⟩; (case ok => exact fun _ _ => trivial))) | ((with_reducible show ∃ _, _); first | (refine ⟨k + 1, rfl, by omega, ?_⟩)))
    all_goals first | (exfalso; omega) | (obtain ⟨rfl, rfl⟩ := hB (fun h => by have := h.2.1 (k + 1) (by omega) hlt; omega); rfl) | (rw [← hs1]; refine hI _ ⟨k + 1, by omega, fun j h1 h2 => (Nat.lt_or_ge j (k + 1)).elim (fun h => hj j h1 h) (fun h => by { have e : j = k + 1 := by { omega }; rw [e]; omega })⟩ (by dsimp only; omega) (by ((with_reducible show wk _ _); repeat' (first | exact trivial | exact eqSV_refl _ | (refine eqI ?_) | (refine eqS ?_) | (with_reducible exact rfl) | apply And.intro | exact Nat.zero_lt_one | exact Nat.le_of_ble_eq_true rfl | (with_reducible assumption) | ((show (_ : Int) = _); (try dsimp only); omega) | ((show eqSV _ _); simp [eqSV, isB, bval, *]; done) | rfl))); done) | trace_state
  · have e : k = 3 := by omega
    subst e
    rw [← hC] at *
    repeat' (first | ((with_reducible first | show wpS .. | show putD .. | show putW .. | show splitG .. | show wpQ .. | show wpD .. | show wpX .. | show expX .. | show stepX .. | show keepR .. | show wpY ..); conv => whnf) | ((with_reducible show RetN ..); refine retB fun β => ?_) | ((with_reducible show _ ∧ _); first | (refine ⟨fun h => absurd h (by first | omega | decide), fun _ => ?_⟩) | (refine ⟨fun _ => ?_, fun h => absurd h (by first | omega | decide)⟩) | (refine ⟨fun _ => ?_, fun _ => ?_⟩) | (apply And.intro; · kernel_rfl) | (apply And.intro; · (show inK _ _; unfold inK; omega)) | (apply And.intro; · (show (_ : Int) ≤ 9223372036854775807; (try simp only [lenS]); omega))) | ((with_reducible show AllBe ..); refine allBe fun βe => ?_; conv => whnf) | ((with_reducible show bothX ..); refine bothI ?_ ?_; conv => whnf) | (with_reducible exact trivial) | ((with_reducible show CallN ..); refine call_of env_ok rfl 1000 ?_) | ((with_reducible show XopN ..); refine xop_of env_ok rfl 1000 ?_) | ((with_reducible show CallX ..); first | fail) | ((with_reducible show OpX ..); first | fail) | ((with_reducible show ∃ _ : SV, _); first | fail) | ((with_reducible show ∃ _, _); first | fail))
    all_goals first | (exfalso; omega) | (obtain ⟨rfl, rfl⟩ := hB (fun h => by have := h.2.2; omega); rfl) | (obtain ⟨rfl, rfl⟩ := hG (by omega) hj (by omega) (by omega) (by omega); rfl) | trace_state
set_option maxRecDepth 100000 in
theorem rrune_1 (s : List UInt8) (w : World) (hs : s ≠ []) (hl : s.length ≤ 9223372036854775807) (h1 : VaP.bt s 0 < 128) : Calls Tryz.prog 120 #[.string (bstr s)] w fun e w' => e = .returned (.tuple #[.int .i64 (VaP.bt s 0 : Nat), .int .i64 1]) ∧ Below w.heap.size w w' := by
  have hl0 := List.length_pos_iff.2 hs
  have hg0 : (s.getD 0 0).toNat = VaP.bt s 0 := rfl
  have hb0 := VaP.bt_lt s 0
  refine enter env_ok Tryz.func120 rfl Tryz.results120 Tryz.ntmps120 [] [] [.str s] (by simp [SV.oks, SV.ok]) (Nat.le_of_ble_eq_true rfl) w _ 1000 ?_
  repeat' (first | ((with_reducible first | show wpS .. | show putD .. | show putW .. | show splitG .. | show wpQ .. | show wpD .. | show wpX .. | show expX .. | show stepX .. | show keepR .. | show wpY ..); conv => whnf) | ((with_reducible show RetN ..); refine retB fun β => ?_) | ((with_reducible show _ ∧ _); first | (refine ⟨fun h => absurd h (by first | omega | decide), fun _ => ?_⟩) | (refine ⟨fun _ => ?_, fun h => absurd h (by first | omega | decide)⟩) | (refine ⟨fun _ => ?_, fun _ => ?_⟩) | (apply And.intro; · kernel_rfl) | (apply And.intro; · (show inK _ _; unfold inK; omega)) | (apply And.intro; · (show (_ : Int) ≤ 9223372036854775807; (try simp only [lenS]); omega))) | ((with_reducible show AllBe ..); refine allBe fun βe => ?_; conv => whnf) | ((with_reducible show bothX ..); refine bothI ?_ ?_; conv => whnf) | (with_reducible exact trivial) | ((with_reducible show CallN ..); refine call_of env_ok rfl 1000 ?_) | ((with_reducible show XopN ..); refine xop_of env_ok rfl 1000 ?_) | ((with_reducible show CallX ..); first | fail) | ((with_reducible show OpX ..); first | fail) | ((with_reducible show ∃ _ : SV, _); first | fail) | ((with_reducible show ∃ _, _); first | (refine ⟨0, rfl, hl0, ?_⟩)))
  all_goals first | (exfalso; omega) | rfl
set_option maxRecDepth 100000 in
theorem rrune_0 (s : List UInt8) (w : World) (hs : s ≠ []) (hl : s.length ≤ 9223372036854775807) (h0 : 128 ≤ VaP.bt s 0) (h1 : VaP.bt s 0 < 194 ∨ 245 ≤ VaP.bt s 0) : Calls Tryz.prog 120 #[.string (bstr s)] w fun e w' => e = .returned (.tuple #[.int .i64 0, .int .i64 0]) ∧ Below w.heap.size w w' := by
  have hl0 := List.length_pos_iff.2 hs
  have hg0 : (s.getD 0 0).toNat = VaP.bt s 0 := rfl
  have hb0 := VaP.bt_lt s 0
  refine enter env_ok Tryz.func120 rfl Tryz.results120 Tryz.ntmps120 [] [] [.str s] (by simp [SV.oks, SV.ok]) (Nat.le_of_ble_eq_true rfl) w _ 1000 ?_
  repeat' (first | ((with_reducible first | show wpS .. | show putD .. | show putW .. | show splitG .. | show wpQ .. | show wpD .. | show wpX .. | show expX .. | show stepX .. | show keepR .. | show wpY ..); conv => whnf) | ((with_reducible show RetN ..); refine retB fun β => ?_) | ((with_reducible show _ ∧ _); first | (refine ⟨fun h => absurd h (by first | omega | decide), fun _ => ?_⟩) | (refine ⟨fun _ => ?_, fun h => absurd h (by first | omega | decide)⟩) | (refine ⟨fun _ => ?_, fun _ => ?_⟩) | (apply And.intro; · kernel_rfl) | (apply And.intro; · (show inK _ _; unfold inK; omega)) | (apply And.intro; · (show (_ : Int) ≤ 9223372036854775807; (try simp only [lenS]); omega))) | ((with_reducible show AllBe ..); refine allBe fun βe => ?_; conv => whnf) | ((with_reducible show bothX ..); refine bothI ?_ ?_; conv => whnf) | (with_reducible exact trivial) | ((with_reducible show CallN ..); refine call_of env_ok rfl 1000 ?_) | ((with_reducible show XopN ..); refine xop_of env_ok rfl 1000 ?_) | ((with_reducible show CallX ..); first | fail) | ((with_reducible show OpX ..); first | fail) | ((with_reducible show ∃ _ : SV, _); first | fail) | ((with_reducible show ∃ _, _); first | (refine ⟨0, rfl, hl0, ?_⟩)))
  all_goals first | (exfalso; omega) | rfl
/-- the first character of a text, and its length -/
theorem rrune_any (s : List UInt8) (w : World) (hs : s ≠ []) (hl : s.length ≤ 9223372036854775807) : Calls Tryz.prog 120 #[.string (bstr s)] w fun e w' => e = .returned (.tuple #[.int .i64 ((VaP.rune s).1 : Nat), .int .i64 ((VaP.rune s).2 : Nat)]) ∧ Below w.heap.size w w' := by
  have b0 := VaP.bt_lt s 0
  have b1 := VaP.bt_lt s 1
  have b2 := VaP.bt_lt s 2
  have b3 := VaP.bt_lt s 3
  by_cases c1 : VaP.bt s 0 < 128
  · rw [VaP.rune_1 hs c1]; exact rrune_1 s w hs hl c1
  by_cases c2 : VaP.bt s 0 < 194 ∨ 245 ≤ VaP.bt s 0
  · rw [VaP.rune_0 hs (by omega) c2]; exact rrune_0 s w hs hl (by omega) c2
  by_cases c3 : VaP.bt s 0 < 224
  · have hr := VaP.rune_2 hs (by omega) c3
    refine rrune_2 s _ _ w hs hl (by omega) c3 _ rfl (fun h1 h2 h3 h4 h5 => ?_) (fun h => ?_)
    · rw [hr, if_pos ⟨by omega, h2 1 (by omega) (by omega)⟩]; exact ⟨rfl, rfl⟩
    · rw [hr, if_neg]
      · exact ⟨rfl, rfl⟩
      · rintro ⟨h1, h2⟩
        refine h ⟨by omega, fun j j1 j2 => by have e : j = 1 := by { omega }; rw [e]; exact h2, ?_⟩
        show 128 ≤ VaP.bt s 0 % 32 * 64 + VaP.bt s 1 % 64 ∧ (VaP.bt s 0 % 32 * 64 + VaP.bt s 1 % 64 < 55296 ∨ 57344 ≤ VaP.bt s 0 % 32 * 64 + VaP.bt s 1 % 64) ∧ VaP.bt s 0 % 32 * 64 + VaP.bt s 1 % 64 ≤ 1114111
        omega
  by_cases c4 : VaP.bt s 0 < 240
  · have hr := VaP.rune_3 hs (by omega) c4
    have e : VaP.cvF s (VaP.bt s 0 % 16) 2 = VaP.bt s 0 % 16 * 4096 + VaP.bt s 1 % 64 * 64 + VaP.bt s 2 % 64 := by
      show (VaP.bt s 0 % 16 * 64 + VaP.bt s 1 % 64) * 64 + VaP.bt s 2 % 64 = _; omega
    rw [← e] at hr
    refine rrune_3 s _ _ w hs hl (by omega) c4 _ rfl (fun h1 h2 h3 h4 h5 => ?_) (fun h => ?_)
    · rw [hr, if_pos ⟨⟨by omega, h2 1 (by omega) (by omega)⟩, ⟨by omega, h2 2 (by omega) (by omega)⟩, h3, h4⟩]; exact ⟨rfl, rfl⟩
    · rw [hr, if_neg]
      · exact ⟨rfl, rfl⟩
      · rintro ⟨⟨h1, h2⟩, ⟨h3, h4⟩, h5, h6⟩
        refine h ⟨by omega, fun j j1 j2 => ?_, h5, h6, by rw [e]; omega⟩
        have : j = 1 ∨ j = 2 := by omega
        rcases this with rfl | rfl
        · exact h2
        · exact h4
  · have hr := VaP.rune_4 hs (by omega) (by omega)
    have e : VaP.cvF s (VaP.bt s 0 % 8) 3 = VaP.bt s 0 % 8 * 262144 + VaP.bt s 1 % 64 * 4096 + VaP.bt s 2 % 64 * 64 + VaP.bt s 3 % 64 := by
      show ((VaP.bt s 0 % 8 * 64 + VaP.bt s 1 % 64) * 64 + VaP.bt s 2 % 64) * 64 + VaP.bt s 3 % 64 = _; omega
    rw [← e] at hr
    refine rrune_4 s _ _ w hs hl (by omega) (by omega) _ rfl (fun h1 h2 h3 h4 h5 => ?_) (fun h => ?_)
    · rw [hr, if_pos ⟨⟨by omega, h2 1 (by omega) (by omega)⟩, ⟨by omega, h2 2 (by omega) (by omega)⟩, ⟨by omega, h2 3 (by omega) (by omega)⟩, h3, h5⟩]; exact ⟨rfl, rfl⟩
    · rw [hr, if_neg]
      · exact ⟨rfl, rfl⟩
      · rintro ⟨⟨h1, h2⟩, ⟨h3, h4⟩, ⟨h5, h6⟩, h7, h8⟩
        refine h ⟨by omega, fun j j1 j2 => ?_, h7, .inr (by omega), h8⟩
        have : j = 1 ∨ j = 2 ∨ j = 3 := by omega
        rcases this with rfl | rfl | rfl
        · exact h2
        · exact h4
        · exact h6
set_option maxRecDepth 100000 in
set_option maxHeartbeats 4000000 in
theorem rtexterr_any (s : List UInt8) (w : World) (hs : s.length ≤ 9223372036854775807) : Calls Tryz.prog 61 #[.string (bstr s)] w fun e w' => e = .returned (.int .i64 (VaP.txtE s)) ∧ Below w.heap.size w w' := by
  have hE : VaP.txtE s = if 32767 < s.length then 3 else if VaP.txtP s then 0 else 23 := rfl
  have D := fun (t : List UInt8) (h0 : t ≠ []) (hl : t.length ≤ s.length) (w' : World) => rrune_any t w' h0 (by omega)
  refine enter env_ok Tryz.func61 rfl Tryz.results61 Tryz.ntmps61 [] [] [.str s] (by simp [SV.oks, SV.ok]) (Nat.le_of_ble_eq_true rfl) w _ 1000 ?_
  repeat' (first | ((with_reducible first | show wpS .. | show putD .. | show putW .. | show splitG .. | show wpQ .. | show wpD .. | show wpX .. | show expX .. | show stepX .. | show keepR .. | show wpY ..); conv => whnf) | ((with_reducible show RetN ..); refine retB fun β => ?_) | ((with_reducible show _ ∧ _); first | (refine ⟨fun h => absurd h (by first | omega | decide), fun _ => ?_⟩) | (refine ⟨fun _ => ?_, fun h => absurd h (by first | omega | decide)⟩) | (refine ⟨fun _ => ?_, fun _ => ?_⟩) | (apply And.intro; · kernel_rfl) | (apply And.intro; · (show inK _ _; unfold inK; omega)) | (apply And.intro; · (show (_ : Int) ≤ 9223372036854775807; (try simp only [lenS]); omega))) | ((with_reducible show AllBe ..); refine allBe fun βe => ?_; conv => whnf) | ((with_reducible show bothX ..); refine bothI ?_ ?_; conv => whnf) | (with_reducible exact trivial) | ((with_reducible show CallN ..); refine call_of env_ok rfl 1000 ?_) | ((with_reducible show XopN ..); refine xop_of env_ok rfl 1000 ?_) | ((with_reducible show CallX ..); first | fail) | ((with_reducible show OpX ..); first | fail) | ((with_reducible show ∃ _ : SV, _); first | fail) | ((with_reducible show ∃ _, _); first | fail))
  all_goals first | (rw [hE, if_pos (by omega)]; rfl) | skip
  rw [if_neg (by omega)] at hE
  refine loop env_ok rfl (T := {t : List UInt8 // t.length ≤ s.length ∧ VaP.txtP t = VaP.txtP s}) (fun t => ⟨[(0, .str t.1)], [], 0, 25⟩) (fun t => t.1.length) ⟨s, Nat.le_refl _, rfl⟩ 1000 [] [] (fun _ => Nat.zero_le _) (by ((with_reducible show wk _ _); repeat' (first | exact trivial | exact eqSV_refl _ | (refine eqI ?_) | (refine eqS ?_) | (with_reducible exact rfl) | apply And.intro | exact Nat.zero_lt_one | exact Nat.le_of_ble_eq_true rfl | (with_reducible assumption) | ((show (_ : Int) = _); (try dsimp only); omega) | ((show eqSV _ _); simp [eqSV, isB, bval, *]; done) | rfl))) (fun t I hI => ?_)
  obtain ⟨t, ht, hp⟩ := t
  dsimp only
  by_cases h0 : t = []
  · subst h0
    rw [← hp] at hE
    repeat' (first | ((with_reducible first | show wpS .. | show putD .. | show putW .. | show splitG .. | show wpQ .. | show wpD .. | show wpX .. | show expX .. | show stepX .. | show keepR .. | show wpY ..); conv => whnf) | ((with_reducible show RetN ..); refine retB fun β => ?_) | ((with_reducible show _ ∧ _); first | (refine ⟨fun h => absurd h (by first | omega | decide), fun _ => ?_⟩) | (refine ⟨fun _ => ?_, fun h => absurd h (by first | omega | decide)⟩) | (refine ⟨fun _ => ?_, fun _ => ?_⟩) | (apply And.intro; · kernel_rfl) | (apply And.intro; · (show inK _ _; unfold inK; omega)) | (apply And.intro; · (show (_ : Int) ≤ 9223372036854775807; (try simp only [lenS]); omega))) | ((with_reducible show AllBe ..); refine allBe fun βe => ?_; conv => whnf) | ((with_reducible show bothX ..); refine bothI ?_ ?_; conv => whnf) | (with_reducible exact trivial) | ((with_reducible show CallN ..); refine call_of env_ok rfl 1000 ?_) | ((with_reducible show XopN ..); refine xop_of env_ok rfl 1000 ?_) | ((with_reducible show CallX ..); first | fail) | ((with_reducible show OpX ..); first | fail) | ((with_reducible show ∃ _ : SV, _); first | fail) | ((with_reducible show ∃ _, _); first | fail))
    all_goals first | (exfalso; simp_all; done) | (rw [hE]; rfl)
  · have hst := VaP.txtP_step h0
    have hl := VaP.dec_len h0
    have D1 := D t h0 ht
    by_cases hd : VaP.dec t = (65533, 1)
    · rw [VaP.rune_bad hd] at D1
      rw [if_pos (.inl hd), hp] at hst
      rw [hst] at hE
      repeat' (first | ((with_reducible first | show wpS .. | show putD .. | show putW .. | show splitG .. | show wpQ .. | show wpD .. | show wpX .. | show expX .. | show stepX .. | show keepR .. | show wpY ..); conv => whnf) | ((with_reducible show RetN ..); refine retB fun β => ?_) | ((with_reducible show _ ∧ _); first | (refine ⟨fun h => absurd h (by first | omega | decide), fun _ => ?_⟩) | (refine ⟨fun _ => ?_, fun h => absurd h (by first | omega | decide)⟩) | (refine ⟨fun _ => ?_, fun _ => ?_⟩) | (apply And.intro; · kernel_rfl) | (apply And.intro; · (show inK _ _; unfold inK; omega)) | (apply And.intro; · (show (_ : Int) ≤ 9223372036854775807; (try simp only [lenS]); omega))) | ((with_reducible show AllBe ..); refine allBe fun βe => ?_; conv => whnf) | ((with_reducible show bothX ..); refine bothI ?_ ?_; conv => whnf) | (with_reducible exact trivial) | ((with_reducible show CallN ..); refine call_of env_ok rfl 1000 ?_) | ((with_reducible show XopN ..); refine xop_of env_ok rfl 1000 ?_) | ((with_reducible show CallX ..); first | (refine callX (.tup [.int .i64 0, .int .i64 0]) (by kernel_rfl) rfl (⟨trivial, trivial, trivial⟩) (fun β w hm => D1 w) ?_) | fail) | ((with_reducible show OpX ..); first | fail) | ((with_reducible show ∃ _ : SV, _); first | fail) | ((with_reducible show ∃ _, _); first | fail))
      all_goals first | (exfalso; omega) | (exfalso; exact (by assumption : ¬ ¬ t = []) h0) | (rw [hE]; rfl)
    · obtain ⟨c, n, hcn⟩ : ∃ c n, VaP.dec t = (c, n) := ⟨_, _, rfl⟩
      rw [VaP.rune_ok hcn (by rw [← hcn]; exact hd)] at D1
      rw [hcn] at hst hl
      have hd' : ¬ (c, n) = (65533, 1) := by rw [← hcn]; exact hd
      dsimp only at hst hl D1
      have bad : VaP.charP c = false → VaP.txtE s = 23 := fun h => by
        have e : VaP.txtP t = false := by rw [hst, if_pos (Or.inr h : (c, n) = (65533, 1) ∨ VaP.charP c = false)]
        rw [hE, ← hp, e]; rfl
      have good : VaP.charP c = true → VaP.txtP (t.drop n) = VaP.txtP s := fun h2 => by
        rw [← hp, hst, if_neg (fun h => h.elim hd' (fun h => by rw [h2] at h; cases h))]
      clear hst hcn hd hd'
      repeat' (first | ((with_reducible first | show wpS .. | show putD .. | show putW .. | show splitG .. | show wpQ .. | show wpD .. | show wpX .. | show expX .. | show stepX .. | show keepR .. | show wpY ..); conv => whnf) | ((with_reducible show RetN ..); refine retB fun β => ?_) | ((with_reducible show _ ∧ _); first | (refine ⟨fun h => absurd h (by first | omega | decide), fun _ => ?_⟩) | (refine ⟨fun _ => ?_, fun h => absurd h (by first | omega | decide)⟩) | (refine ⟨fun _ => ?_, fun _ => ?_⟩) | (apply And.intro; · kernel_rfl) | (apply And.intro; · (show inK _ _; unfold inK; omega)) | (apply And.intro; · (show (_ : Int) ≤ 9223372036854775807; (try simp only [lenS]); omega))) | ((with_reducible show AllBe ..); refine allBe fun βe => ?_; conv => whnf) | ((with_reducible show bothX ..); refine bothI ?_ ?_; conv => whnf) | (with_reducible exact trivial) | ((with_reducible show CallN ..); refine call_of env_ok rfl 1000 ?_) | ((with_reducible show XopN ..); refine xop_of env_ok rfl 1000 ?_) | ((with_reducible show CallX ..); first | (refine callX (.tup [.int .i64 (c : Int), .int .i64 (n : Int)]) (by kernel_rfl) rfl (⟨trivial, trivial, trivial⟩) (fun β w hm => D1 w) ?_) | (refine callX (.bool (VaP.charP c)) (by kernel_rfl) rfl (trivial) (fun β w hm => rchar_any c w) ?_) | fail) | ((with_reducible show OpX ..); first | fail) | ((with_reducible show ∃ _ : SV, _); first | fail) | ((with_reducible show ∃ _, _); first | (refine ⟨n, rfl, hl.2, ?_⟩) | fail))
      all_goals first | (exfalso; omega) | (exfalso; exact (by assumption : ¬ ¬ t = []) h0) | (rw [bad (by clear D D1; simp_all)]; rfl) | (refine hI _ ⟨t.drop n, by rw [List.length_drop]; omega, good (by clear D D1; simp_all)⟩ (by dsimp only; rw [List.length_drop]; omega) (by ((with_reducible show wk _ _); repeat' (first | exact trivial | exact eqSV_refl _ | (refine eqI ?_) | (refine eqS ?_) | (with_reducible exact rfl) | apply And.intro | exact Nat.zero_lt_one | exact Nat.le_of_ble_eq_true rfl | (with_reducible assumption) | ((show (_ : Int) = _); (try dsimp only); omega) | ((show eqSV _ _); simp [eqSV, isB, bval, *]; done) | rfl))); done) | trace_state
end Go.Proofs.YtdkhkfdenlabaaaGreatDoor
namespace Go.Proofs.YtdkhkfdenlabaaaGreatDoor
open Go.RowKit
open Sym
attribute [local irreducible] Calls Sym.AggEq ExP.nd ExP.dig ExP.upd ExP.writeF ExP.writeE
set_option maxRecDepth 100000 in
theorem only_any (k kd : Int) (z : Bool) (g : Nat) (w : World) (h : w.cell? ⟨g, 0, none⟩ = some (.int .i64 kd)) : Calls Tryz.prog 72 #[.int .i64 k, .bool z, .pointer (some ⟨g, 0, none⟩)] w fun e w' => e = .returned (.bool (decide (kd = k) || z)) ∧ Below w.heap.size w w' := by
  have hc : ∀ w', Below w.heap.size w w' → w'.cell? ((⟨g, 0, none⟩ : Addr).add 0) = some (.int .i64 kd) := fun w' hb => cell_below h hb
  refine enter env_ok Tryz.func72 rfl Tryz.results72 Tryz.ntmps72 [] [] [.int .i64 k, .bool z, .any (.pointer (some ⟨g, 0, none⟩))] ⟨trivial, trivial, rfl, trivial⟩ (Nat.le_of_ble_eq_true rfl) w _ 1000 ?_
  repeat' (first | ((with_reducible first | show wpS .. | show putD .. | show putW .. | show splitG .. | show wpQ .. | show wpD .. | show wpX .. | show expX .. | show stepX .. | show keepR .. | show wpY ..); conv => whnf) | ((with_reducible show RetN ..); refine retB fun β => ?_) | ((with_reducible show _ ∧ _); first | (refine ⟨fun h => absurd h (by first | omega | decide), fun _ => ?_⟩) | (refine ⟨fun _ => ?_, fun h => absurd h (by first | omega | decide)⟩) | (refine ⟨fun _ => ?_, fun _ => ?_⟩) | (apply And.intro; · kernel_rfl) | (apply And.intro; · (show inK _ _; unfold inK; omega)) | (apply And.intro; · (show (_ : Int) ≤ 9223372036854775807; (try simp only [lenS]); omega))) | ((with_reducible show AllBe ..); refine allBe fun βe => ?_; conv => whnf) | ((with_reducible show bothX ..); refine bothI ?_ ?_; conv => whnf) | (with_reducible exact trivial) | ((with_reducible show CallN ..); refine call_of env_ok rfl 1000 ?_) | ((with_reducible show XopN ..); refine xop_of env_ok rfl 1000 ?_) | ((with_reducible show CallX ..); first | fail) | ((with_reducible show OpX ..); first | fail) | ((with_reducible show ∃ _ : SV, _); first | (refine ⟨_, ?ok, x_field Tryz.underlying28 rfl (fun w => Tryz.sizeOf3 w) (by decide), ?_⟩; (case ok => exact fun _ _ => rfl)) | (refine ⟨.int .i64 kd, fun _ _ => trivial, x_load1 (fun w => Tryz.isAgg3 w) (fun w' hb β => hc w' hb), ?_⟩)) | ((with_reducible show ∃ _, _); first | fail))
  all_goals first | (simp_all [SV.den]; done) | trace_state
theorem row0_cell {C : Ctx} {rows : List (Nat × Bool × SRow)} {nx : Nat} {β : Nat → Nat} {w : World} {o : Bool} {t : TypeId} {cs : List SV} {i : Nat} {v : SV} (hm : Mem C.base C.w0 rows nx β w) (h : get rows i = some (o, .cells t cs)) (hv : cs[0]? = some v) : w.cell? ⟨β i, 0, none⟩ = some (v.den β) := by
  have k1 := (hm.row i o _ h).1
  have k1 : Row w (β i) t (SV.dens β cs).toArray := k1
  rw [k1.cell]
  have := SV.dens_get β cs 0
  rw [hv] at this
  simpa using this
theorem fracAggB (a b : List UInt8) (FZ : Bool) (h : FZ = decide (a = [] ∧ b = [])) : AggEq Tryz.prog 25 [.str a, .str b] [.str [], .str []] FZ := by
  by_cases hf : a = [] ∧ b = []
  · rw [h, decide_eq_true hf]; obtain ⟨rfl, rfl⟩ := hf; exact fracAggT _ _
  · rw [h, decide_eq_false hf]; exact fracAggF hf
set_option maxRecDepth 100000 in
set_option maxHeartbeats 8000000 in
theorem rverr_test (t : VaP.VT) (a : Option Addr) (cap : Nat) (w : World) (hw : XV w) (hr : XR w) (hf : t.Fit) (h5 : t.kind ≠ 5) (FZ : Bool) (hFZ : FZ = decide (t.num.1 = [] ∧ t.num.2 = [])) (V NE TE : Int)
    (hR : (t.kind < 0 ∨ 5 < t.kind) → V = 8) (hB : ¬ (t.kind < 0 ∨ 5 < t.kind) → VaP.zBad t → V = 4)
    (hO : ¬ (t.kind < 0 ∨ 5 < t.kind) → ¬ VaP.zBad t → V = if t.kind = 1 then NE else if t.kind = 2 then TE else if t.kind = 4 ∧ (t.code < 1 ∨ 8 < t.code) then 2 else 0)
    (N : ∀ w', Below w.heap.size w w' → Calls Tryz.prog 73 #[.agg #[.string (bstr t.num.1), .string (bstr t.num.2)]] w' fun e w'' => e = .returned (.int .i64 NE) ∧ Below w'.heap.size w' w'')
    (T : ∀ w', Below w.heap.size w w' → Calls Tryz.prog 61 #[.string (bstr t.text)] w' fun e w'' => e = .returned (.int .i64 TE) ∧ Below w'.heap.size w' w'') :
    Calls Tryz.prog 14 #[vtV t a cap] w fun e w' => e = .returned (.int .i64 V) ∧ Below w.heap.size w w' := by
  have F := fun (w' : World) (h : Below w.heap.size w w') => rftext_any t.code w' (hr.below h)
  have hF := ftextI_nil t.code
  obtain ⟨k, ⟨n1, n2⟩, tx, on, cd, rw', cl, its⟩ := t
  unfold vtV
  unfold VaP.zBad at hB hO
  dsimp only at *
  have hFZ' : FZ = true ↔ (n1 = [] ∧ n2 = []) := by rw [hFZ, decide_eq_true_eq]
  have hagg := fracAggB n1 n2 FZ hFZ
  clear hFZ hf hw hr
  generalize VaP.ftextI cd = FT at *
  generalize its.length = n at *
  refine enter env_ok Tryz.func14 rfl Tryz.results14 Tryz.ntmps14 [] [] [.agg [.int .i64 k, .str n1, .str n2, .str tx, .bool on, .int .i64 cd, .int .i64 rw', .int .i64 cl, .any (.slice a n cap)]] ⟨⟨trivial, trivial, trivial, trivial, trivial, trivial, trivial, trivial, rfl, trivial⟩, trivial⟩ (Nat.le_of_ble_eq_true rfl) w _ 1000 ?_
  repeat' (first | ((with_reducible first | show wpS .. | show putD .. | show putW .. | show splitG .. | show wpQ .. | show wpD .. | show wpX .. | show expX .. | show stepX .. | show keepR .. | show wpY ..); conv => whnf) | ((with_reducible show RetN ..); refine retB fun β => ?_) | ((with_reducible show _ ∧ _); first | (refine ⟨fun h => absurd h (by first | omega | decide), fun _ => ?_⟩) | (refine ⟨fun _ => ?_, fun h => absurd h (by first | omega | decide)⟩) | (refine ⟨fun _ => ?_, fun _ => ?_⟩) | (apply And.intro; · kernel_rfl) | (apply And.intro; · (show inK _ _; unfold inK; omega)) | (apply And.intro; · (show (_ : Int) ≤ 9223372036854775807; (try simp only [lenS]); omega))) | ((with_reducible show AllBe ..); refine allBe fun βe => ?_; conv => whnf) | ((with_reducible show bothX ..); refine bothI ?_ ?_; conv => whnf) | (with_reducible exact trivial) | ((with_reducible show CallN ..); refine call_of env_ok rfl 1000 ?_) | ((with_reducible show XopN ..); refine xop_of env_ok rfl 1000 ?_) | ((with_reducible show CallX ..); first | (refine callX (.bool (decide (k = 1) || FZ)) (by kernel_rfl) rfl (trivial) (fun β w hm => only_any 1 k (FZ) (β 0) w (row0_cell (i := 0) (v := .int .i64 k) hm rfl rfl)) ?_) | (refine callX (.bool (decide (k = 2) || decide (tx = []))) (by kernel_rfl) rfl (trivial) (fun β w hm => only_any 2 k (decide (tx = [])) (β 0) w (row0_cell (i := 0) (v := .int .i64 k) hm rfl rfl)) ?_) | (refine callX (.bool (decide (k = 3) || !on)) (by kernel_rfl) rfl (trivial) (fun β w hm => only_any 3 k (!on) (β 0) w (row0_cell (i := 0) (v := .int .i64 k) hm rfl rfl)) ?_) | (refine callX (.bool (decide (k = 4) || decide (cd = 0))) (by kernel_rfl) rfl (trivial) (fun β w hm => only_any 4 k (decide (cd = 0)) (β 0) w (row0_cell (i := 0) (v := .int .i64 k) hm rfl rfl)) ?_) | (refine callX (.bool (decide (k = 5) || false)) (by kernel_rfl) rfl (trivial) (fun β w hm => only_any 5 k (false) (β 0) w (row0_cell (i := 0) (v := .int .i64 k) hm rfl rfl)) ?_) | (refine callX (.bool (decide (k = 5) || decide ((n : Int) = 0))) (by kernel_rfl) rfl (trivial) (fun β w hm => only_any 5 k (decide ((n : Int) = 0)) (β 0) w (row0_cell (i := 0) (v := .int .i64 k) hm rfl rfl)) ?_) | (refine callX (.int .i64 NE) (by kernel_rfl) rfl (trivial) (fun β w hm => N w hm.below) ?_) | (refine callX (.int .i64 TE) (by kernel_rfl) rfl (trivial) (fun β w hm => T w hm.below) ?_) | (refine callX (.str FT) (by kernel_rfl) rfl (trivial) (fun β w hm => F w hm.below) ?_) | fail) | ((with_reducible show OpX ..); first | fail) | ((with_reducible show ∃ _ : SV, _); first | (refine ⟨_, ?ok, x_len Tryz.underlying26, ?_⟩; (case ok => exact fun _ _ => trivial)) | (refine ⟨_, ?ok, x_func, ?_⟩; (case ok => exact fun _ h => h))) | ((with_reducible show ∃ _, _); first | (refine ⟨FZ, hagg, ?_⟩) | fail))
  all_goals clear N T F hagg
  all_goals first | (rw [hR (by omega)]; rfl) | (rw [hB (by omega) (by clear hB hO hR; simp_all; try omega)]; rfl) | skip
  all_goals first | (exfalso; clear hB hO hR; simp_all; done) | (rw [hO (by omega) (by clear hB hO hR; simp_all; try omega), if_pos (by assumption : k = 1)]; rfl) | (rw [hO (by omega) (by clear hB hO hR; simp_all; try omega), if_neg (by assumption : ¬ k = 1), if_pos (by assumption : k = 2)]; rfl) | (rw [hO (by omega) (by clear hB hO hR; simp_all; try omega), if_neg (by assumption : ¬ k = 1), if_neg (by assumption : ¬ k = 2), if_pos ⟨(by assumption : k = 4), hF.1 (by assumption)⟩]; rfl) | (rw [hO (by omega) (by clear hB hO hR; simp_all; try omega), if_neg (by assumption : ¬ k = 1), if_neg (by assumption : ¬ k = 2), if_neg (fun h => (by assumption : ¬ FT = []) (hF.2 h.2))]; rfl) | (rw [hO (by omega) (by clear hB hO hR; simp_all; try omega), if_neg (by assumption : ¬ k = 1), if_neg (by assumption : ¬ k = 2), if_neg (fun h => (by assumption : ¬ k = 4) h.1)]; rfl) | trace_state
theorem rverr_sc (t : VaP.VT) (a : Option Addr) (cap : Nat) (w : World) (hw : XV w) (hr : XR w) (hf : t.Fit) (h5 : t.kind ≠ 5) : Calls Tryz.prog 14 #[vtV t a cap] w fun e w' => e = .returned (.int .i64 (VaP.vErr0 t)) ∧ Below w.heap.size w w' :=
  rverr_test t a cap w hw hr hf h5 _ rfl (VaP.vErr0 t) (ExP.readE t.num) (VaP.txtE t.text) vErr0_range (fun h1 h2 => vErr0_bad h1 h2) (fun h1 h2 => vErr0_ok h1 h2)
    (fun w' h => fracError_any t.num w' (hw.below h).pos hf.n1 hf.n2) (fun w' _ => rtexterr_any t.text w' hf.tx)
end Go.Proofs.YtdkhkfdenlabaaaGreatDoor
