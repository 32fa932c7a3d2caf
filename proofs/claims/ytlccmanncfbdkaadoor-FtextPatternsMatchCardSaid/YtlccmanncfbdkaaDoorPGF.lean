/- Patterns, the reference: small letters. Patterns, the reference: characters. Patterns, the reference: the characters of a text. A walk that reckons: the rest of a slice; a block of one's own under another number, all others forgotten. -/
import Derived.Test.YtlccmanncfbdkaaDoorPGE
import Derived.Test.YtlccmanncfbdkaaDoorPGD
import Derived.Test.YtlccmanncfbdkaaDoorPGA
import Derived.Test.YtlccmanncfbdkaaDoorPSz28
set_option linter.unusedSimpArgs false
set_option linter.unusedVariables false
namespace Go.Proofs.YtlccmanncfbdkaaDoor
open Go.RowKit
open Sym
attribute [local irreducible] Calls Sym.AggEq ExP.nd ExP.dig ExP.upd ExP.writeF ExP.writeE
theorem VaP.lowC_pick {c : UInt8} {v : Int} (h : ((65 : Int) ≤ c.toNat ∧ (c.toNat : Int) ≤ 90 ∧ v = (c.toNat : Int) + 32) ∨ (¬ ((65 : Int) ≤ c.toNat ∧ (c.toNat : Int) ≤ 90) ∧ v = (c.toNat : Int))) : [Value.int .u8 v] = bvals [VaP.lowC c] := by
  have hc := VaP.lowC_nat c
  rcases h with ⟨h1, h2, rfl⟩ | ⟨h1, rfl⟩
  · rw [if_pos (by omega)] at hc
    simp [bvals, hc]
  · rw [if_neg (by omega)] at hc
    simp [bvals, hc]
theorem VaP.low_take {s : List UInt8} {n : Nat} (h : n < s.length) : VaP.low (s.take n) ++ [VaP.lowC (s.getD n 0)] = VaP.low (s.take (n + 1)) := by
  rw [take_next0 s n h]; simp [VaP.low]
set_option maxRecDepth 100000 in
set_option maxHeartbeats 4000000 in
/-- the reference's small letters -/
theorem rlowV_any (s : List UInt8) (w : World) (hs : s.length ≤ 1000000) : Calls Tryd.prog 10 #[.string (bstr s)] w fun e w' => e = .returned (.string (bstr (VaP.low s))) ∧ Below w.heap.size w w' := by
  refine enter env_ok Tryd.func10 rfl Tryd.results10 Tryd.ntmps10 [] [] [.str s] (by simp [SV.oks, SV.ok]) (Nat.le_of_ble_eq_true rfl) w _ 1000 ?_
  repeat' (first | ((with_reducible first | show wpS _ _ _ _ | show putD _ _ _ _ | show putW _ _ _ _ | show splitG _ _ _ | show wpQ _ _ _ _ _ _ | show wpD _ _ _ _ _ _ _ | show wpX _ _ _ _ _ _ _ | show expX _ _ _ _ _ _ | show stepX _ _ _ _ | show keepR _ _ _ | show wpY _ _ _ _); conv => whnf) | ((with_reducible show RetN _ _ _); refine retB fun β => ?_) | ((with_reducible show _ ∧ _); first | (apply And.intro; (· intro h; exfalso; first | omega | (revert h; decide)); intro _) | (apply And.intro; rotate_left; (· intro h; exfalso; first | omega | (revert h; decide)); intro _) | (refine ⟨fun _ => ?_, fun _ => ?_⟩) | (apply And.intro; · kernel_rfl) | (apply And.intro; · (show inK _ _; unfold inK; omega)) | (apply And.intro; · (show (_ : Int) ≤ 9223372036854775807; (try simp only [List.length_append, List.length_drop, List.length_take, List.length_cons, List.length_nil]); omega))) | ((with_reducible show AllBe _); refine allBe fun βe => ?_; conv => whnf) | ((with_reducible show bothX _ _); refine bothI ?_ ?_; conv => whnf) | (with_reducible exact trivial) | ((with_reducible show CallN _ _ _ _ _ _ _ _); refine call_of env_ok rfl 1000 ?_) | ((with_reducible show XopN _ _ _ _ _ _); refine xop_of env_ok rfl 1000 ?_) | ((with_reducible show CallX _ _ _ _ _ _); first | fail) | ((with_reducible show OpX _ _ _ _); first | fail) | ((with_reducible show ∃ _ : SV, _); first | fail) | ((with_reducible show ∃ _, _); first | fail))
  refine loop env_ok rfl (T := {r : Nat × List UInt8 // r.1 ≤ s.length ∧ r.2 = VaP.low (s.take r.1)}) (fun t => ⟨[(0, .str s), (3, .str t.1.2), (7, .int .i64 (s.length : Nat)), (8, .int .i64 (t.1.1 : Nat))], [], 0, 29⟩) (fun t => s.length - t.1.1) ⟨(0, []), Nat.zero_le _, rfl⟩ 1000 [] [] (fun _ => Nat.zero_le _) (by ((with_reducible show wk _ _); repeat' (first | exact trivial | exact eqSV_refl _ | (refine eqI ?_) | (refine eqS ?_) | (with_reducible exact rfl) | apply And.intro | exact Nat.zero_lt_one | exact Nat.le_of_ble_eq_true rfl | (with_reducible assumption) | ((show (_ : Int) = _); (try dsimp only); omega) | ((show eqSV _ _); simp [eqSV, isB, bval, *]; done) | rfl))) (fun t I hI => ?_)
  obtain ⟨⟨n, out⟩, hn, hr⟩ := t
  dsimp only at hn hr ⊢
  have hl : out.length ≤ 1000000 := by rw [hr, VaP.low_len]; simp; omega
  have h1 := (s.getD n 0).toNat_lt
  repeat' (first | ((with_reducible first | show wpS _ _ _ _ | show putD _ _ _ _ | show putW _ _ _ _ | show splitG _ _ _ | show wpQ _ _ _ _ _ _ | show wpD _ _ _ _ _ _ _ | show wpX _ _ _ _ _ _ _ | show expX _ _ _ _ _ _ | show stepX _ _ _ _ | show keepR _ _ _ | show wpY _ _ _ _); conv => whnf) | ((with_reducible show RetN _ _ _); refine retB fun β => ?_) | ((with_reducible show _ ∧ _); first | (apply And.intro; (· intro h; exfalso; first | omega | (revert h; decide)); intro _) | (apply And.intro; rotate_left; (· intro h; exfalso; first | omega | (revert h; decide)); intro _) | (refine ⟨fun _ => ?_, fun _ => ?_⟩) | (apply And.intro; · kernel_rfl) | (apply And.intro; · (show inK _ _; unfold inK; omega)) | (apply And.intro; · (show (_ : Int) ≤ 9223372036854775807; (try simp only [List.length_append, List.length_drop, List.length_take, List.length_cons, List.length_nil]); omega))) | ((with_reducible show AllBe _); refine allBe fun βe => ?_; conv => whnf) | ((with_reducible show bothX _ _); refine bothI ?_ ?_; conv => whnf) | (with_reducible exact trivial) | ((with_reducible show CallN _ _ _ _ _ _ _ _); refine call_of env_ok rfl 1000 ?_) | ((with_reducible show XopN _ _ _ _ _ _); refine xop_of env_ok rfl 1000 ?_) | ((with_reducible show CallX _ _ _ _ _ _); first | fail) | ((with_reducible show OpX _ _ _ _); first | (refine opx_one rfl rfl Tryd.underlying39 (fun w => Tryd.sizeOf5 w) (fun w => Tryd.zeroValue5 w) rfl (fun g => ?_))) | ((with_reducible show ∃ _ : SV, _); first | (refine ⟨_, ?ok, x_bytesStr 0 [VaP.lowC (s.getD n 0)] Tryd.underlying39 Tryd.underlying5 Tryd.underlying9 rfl (VaP.lowC_pick (by omega)), ?_⟩; (case ok => exact fun _ _ => trivial))) | ((with_reducible show ∃ _, _); first | (refine ⟨n, rfl, by omega, ?_⟩)))
  · refine hI _ ⟨(n + 1, out ++ [VaP.lowC (s.getD n 0)]), by dsimp only; omega, by dsimp only; rw [← VaP.low_take (by omega), hr]⟩ (by dsimp only; omega) (by ((with_reducible show wk _ _); repeat' (first | exact trivial | exact eqSV_refl _ | (refine eqI ?_) | (refine eqS ?_) | (with_reducible exact rfl) | apply And.intro | exact Nat.zero_lt_one | exact Nat.le_of_ble_eq_true rfl | (with_reducible assumption) | ((show (_ : Int) = _); (try dsimp only); omega) | ((show eqSV _ _); simp [eqSV, isB, bval, *]; done) | rfl)))
  · refine hI _ ⟨(n + 1, out ++ [VaP.lowC (s.getD n 0)]), by dsimp only; omega, by dsimp only; rw [← VaP.low_take (by omega), hr]⟩ (by dsimp only; omega) (by ((with_reducible show wk _ _); repeat' (first | exact trivial | exact eqSV_refl _ | (refine eqI ?_) | (refine eqS ?_) | (with_reducible exact rfl) | apply And.intro | exact Nat.zero_lt_one | exact Nat.le_of_ble_eq_true rfl | (with_reducible assumption) | ((show (_ : Int) = _); (try dsimp only); omega) | ((show eqSV _ _); simp [eqSV, isB, bval, *]; done) | rfl)))
  · refine hI _ ⟨(n + 1, out ++ [VaP.lowC (s.getD n 0)]), by dsimp only; omega, by dsimp only; rw [← VaP.low_take (by omega), hr]⟩ (by dsimp only; omega) (by ((with_reducible show wk _ _); repeat' (first | exact trivial | exact eqSV_refl _ | (refine eqI ?_) | (refine eqS ?_) | (with_reducible exact rfl) | apply And.intro | exact Nat.zero_lt_one | exact Nat.le_of_ble_eq_true rfl | (with_reducible assumption) | ((show (_ : Int) = _); (try dsimp only); omega) | ((show eqSV _ _); simp [eqSV, isB, bval, *]; done) | rfl)))
  · rw [hr, List.take_of_length_le (by omega)]; rfl
end Go.Proofs.YtlccmanncfbdkaaDoor
namespace Go.Proofs.YtlccmanncfbdkaaDoor
open Go.RowKit
open Sym
attribute [local irreducible] Calls Sym.AggEq ExP.nd ExP.dig ExP.upd ExP.writeF ExP.writeE
/-- a character's number, so many bytes read -/
def VaP.cvF (s : List UInt8) (c : Nat) : Nat → Nat
  | 0 => c
  | k + 1 => VaP.cvF s c k * 64 + VaP.bt s (k + 1) % 64
theorem VaP.cvF_le (s : List UInt8) (c : Nat) (hc : c ≤ 31) : VaP.cvF s c 0 ≤ 31 ∧ VaP.cvF s c 1 ≤ 2047 ∧ VaP.cvF s c 2 ≤ 131071 ∧ VaP.cvF s c 3 ≤ 8388607 := by
  refine ⟨hc, ?_, ?_, ?_⟩
  · show c * 64 + VaP.bt s 1 % 64 ≤ _; omega
  · show (c * 64 + VaP.bt s 1 % 64) * 64 + VaP.bt s 2 % 64 ≤ _; omega
  · show ((c * 64 + VaP.bt s 1 % 64) * 64 + VaP.bt s 2 % 64) * 64 + VaP.bt s 3 % 64 ≤ _; omega
set_option maxRecDepth 100000 in
set_option maxHeartbeats 4000000 in
theorem rrune_2 (s : List UInt8) (R1 R2 : Nat) (w : World) (hs : s ≠ []) (hl : s.length ≤ 9223372036854775807) (h1 : 194 ≤ VaP.bt s 0) (h2 : VaP.bt s 0 < 224) (C : Nat) (hC : C = VaP.cvF s (VaP.bt s 0 % 32) 1)
    (hG : 2 ≤ s.length → (∀ j, 1 ≤ j → j < 2 → VaP.bt s j / 64 = 2) → 128 ≤ C → (C < 55296 ∨ 57344 ≤ C) → C ≤ 1114111 → R1 = C ∧ R2 = 2)
    (hB : ¬ (2 ≤ s.length ∧ (∀ j, 1 ≤ j → j < 2 → VaP.bt s j / 64 = 2) ∧ 128 ≤ C ∧ (C < 55296 ∨ 57344 ≤ C) ∧ C ≤ 1114111) → R1 = 0 ∧ R2 = 0) :
    Calls Tryd.prog 14 #[.string (bstr s)] w fun e w' => e = .returned (.tuple #[.int .i64 (R1 : Nat), .int .i64 (R2 : Nat)]) ∧ Below w.heap.size w w' := by
  have hl0 := List.length_pos_iff.2 hs
  have hbt := VaP.bt_lt s
  have hcv := VaP.cvF_le s (VaP.bt s 0 % 32) (by omega)
  have hst : ∀ k, VaP.cvF s (VaP.bt s 0 % 32) (k + 1) = VaP.cvF s (VaP.bt s 0 % 32) k * 64 + VaP.bt s (k + 1) % 64 := fun _ => rfl
  have hz : VaP.cvF s (VaP.bt s 0 % 32) 0 = VaP.bt s 0 % 32 := rfl
  have hget : ∀ j, (s.getD j 0).toNat = VaP.bt s j := fun _ => rfl
  generalize VaP.cvF s (VaP.bt s 0 % 32) = CV at *
  generalize VaP.bt s = B at *
  have hg0 := hget 0
  have hb0 := hbt 0
  refine enter env_ok Tryd.func14 rfl Tryd.results14 Tryd.ntmps14 [] [] [.str s] (by simp [SV.oks, SV.ok]) (Nat.le_of_ble_eq_true rfl) w _ 1000 ?_
  repeat' (first | ((with_reducible first | show wpS _ _ _ _ | show putD _ _ _ _ | show putW _ _ _ _ | show splitG _ _ _ | show wpQ _ _ _ _ _ _ | show wpD _ _ _ _ _ _ _ | show wpX _ _ _ _ _ _ _ | show expX _ _ _ _ _ _ | show stepX _ _ _ _ | show keepR _ _ _ | show wpY _ _ _ _); conv => whnf) | ((with_reducible show RetN _ _ _); refine retB fun β => ?_) | ((with_reducible show _ ∧ _); first | (apply And.intro; (· intro h; exfalso; first | omega | (revert h; decide)); intro _) | (apply And.intro; rotate_left; (· intro h; exfalso; first | omega | (revert h; decide)); intro _) | (refine ⟨fun _ => ?_, fun _ => ?_⟩) | (apply And.intro; · kernel_rfl) | (apply And.intro; · (show inK _ _; unfold inK; omega)) | (apply And.intro; · (show (_ : Int) ≤ 9223372036854775807; (try simp only [List.length_append, List.length_drop, List.length_take, List.length_cons, List.length_nil]); omega))) | ((with_reducible show AllBe _); refine allBe fun βe => ?_; conv => whnf) | ((with_reducible show bothX _ _); refine bothI ?_ ?_; conv => whnf) | (with_reducible exact trivial) | ((with_reducible show CallN _ _ _ _ _ _ _ _); refine call_of env_ok rfl 1000 ?_) | ((with_reducible show XopN _ _ _ _ _ _); refine xop_of env_ok rfl 1000 ?_) | ((with_reducible show CallX _ _ _ _ _ _); first | fail) | ((with_reducible show OpX _ _ _ _); first | fail) | ((with_reducible show ∃ _ : SV, _); first | (refine ⟨.int .i64 ((B 0 % 32 : Nat) : Int), ?ok, x_and _ (by rw [hget 0]; exact Bi.i64_and (B 0) 31 _ (by have := hbt 0; omega) (by omega) (Bi.and_31 _)), ?_⟩; (case ok => exact fun _ _ => trivial))) | ((with_reducible show ∃ _, _); first | (refine ⟨0, rfl, hl0, ?_⟩)))
  all_goals first | (exfalso; have := hget 0; omega) | (obtain ⟨rfl, rfl⟩ := hB (fun h => by have := h.1; omega); rfl) | skip
  refine loop env_ok rfl (T := {k : Nat // k + 1 ≤ 2 ∧ ∀ j, 1 ≤ j → j < k + 1 → B j / 64 = 2}) (fun t => ⟨[(0, .str s), (4, .int .i64 (CV t.1 : Nat)), (5, .int .i64 2), (6, .int .i64 128), (7, .int .i64 ((t.1 : Nat) + 1))], [], 0, 81⟩) (fun t => 2 - t.1) ⟨0, by omega, fun j h1 h2 => by omega⟩ 1000 [] [] (fun _ => Nat.zero_le _) (by ((with_reducible show wk _ _); repeat' (first | exact trivial | exact eqSV_refl _ | (refine eqI ?_) | (refine eqS ?_) | (with_reducible exact rfl) | apply And.intro | exact Nat.zero_lt_one | exact Nat.le_of_ble_eq_true rfl | (with_reducible assumption) | ((show (_ : Int) = _); (try dsimp only); omega) | ((show eqSV _ _); simp [eqSV, isB, bval, *]; done) | rfl))) (fun t I hI => ?_)
  obtain ⟨k, hk, hj⟩ := t
  dsimp only
  have hk3 : k ≤ 3 := by omega
  have hcvk : CV k ≤ 8388607 := by
    have : k = 0 ∨ k = 1 ∨ k = 2 ∨ k = 3 := by omega
    rcases this with rfl | rfl | rfl | rfl <;> omega
  have hb1 := hbt (k + 1)
  have hs1 := hst k
  have hg1 := hget (k + 1)
  by_cases hlt : k + 1 < 2
  · repeat' (first | ((with_reducible first | show wpS _ _ _ _ | show putD _ _ _ _ | show putW _ _ _ _ | show splitG _ _ _ | show wpQ _ _ _ _ _ _ | show wpD _ _ _ _ _ _ _ | show wpX _ _ _ _ _ _ _ | show expX _ _ _ _ _ _ | show stepX _ _ _ _ | show keepR _ _ _ | show wpY _ _ _ _); conv => whnf) | ((with_reducible show RetN _ _ _); refine retB fun β => ?_) | ((with_reducible show _ ∧ _); first | (apply And.intro; (· intro h; exfalso; first | omega | (revert h; decide)); intro _) | (apply And.intro; rotate_left; (· intro h; exfalso; first | omega | (revert h; decide)); intro _) | (refine ⟨fun _ => ?_, fun _ => ?_⟩) | (apply And.intro; · kernel_rfl) | (apply And.intro; · (show inK _ _; unfold inK; omega)) | (apply And.intro; · (show (_ : Int) ≤ 9223372036854775807; (try simp only [List.length_append, List.length_drop, List.length_take, List.length_cons, List.length_nil]); omega))) | ((with_reducible show AllBe _); refine allBe fun βe => ?_; conv => whnf) | ((with_reducible show bothX _ _); refine bothI ?_ ?_; conv => whnf) | (with_reducible exact trivial) | ((with_reducible show CallN _ _ _ _ _ _ _ _); refine call_of env_ok rfl 1000 ?_) | ((with_reducible show XopN _ _ _ _ _ _); refine xop_of env_ok rfl 1000 ?_) | ((with_reducible show CallX _ _ _ _ _ _); first | fail) | ((with_reducible show OpX _ _ _ _); first | fail) | ((with_reducible show ∃ _ : SV, _); first | (refine ⟨.int .u8 ((B (k + 1) / 64 * 64 : Nat) : Int), ?ok, x_and _ (by rw [hg1]; exact Bi.u8_and (B (k + 1)) 192 _ (by omega) (by omega) (Bi.and_192 _ (by omega))), ?_⟩; (case ok => exact fun _ _ => trivial)) | (refine ⟨.int .u8 ((B (k + 1) % 64 : Nat) : Int), ?ok, x_and _ (by rw [hg1]; exact Bi.u8_and (B (k + 1)) 63 _ (by omega) (by omega) (Bi.and_63 _)), ?_⟩; (case ok => exact fun _ _ => trivial)) | (refine ⟨.int .i64 ((CV k * 64 : Nat) : Int), ?ok, x_shlE 6 _ rfl (by rw [Int.natCast_mul]; rfl) (by decide) (by simp only [inK]; omega), ?_⟩; (case ok => exact fun _ _ => trivial)) | (refine ⟨.int .i64 ((CV k * 64 + B (k + 1) % 64 : Nat) : Int), ?ok, x_or _ (Bi.i64_or (CV k * 64) (B (k + 1) % 64) _ (by omega) (by omega) (Bi.or_64 _ _ (by omega))), ?_⟩; (case ok => exact fun _ _ => trivial))) | ((with_reducible show ∃ _, _); first | (refine ⟨k + 1, rfl, by omega, ?_⟩)))
    all_goals first | (exfalso; omega) | (obtain ⟨rfl, rfl⟩ := hB (fun h => by have := h.2.1 (k + 1) (by omega) hlt; omega); rfl) | (rw [← hs1]; refine hI _ ⟨k + 1, by omega, fun j h1 h2 => (Nat.lt_or_ge j (k + 1)).elim (fun h => hj j h1 h) (fun h => by { have e : j = k + 1 := by { omega }; rw [e]; omega })⟩ (by dsimp only; omega) (by ((with_reducible show wk _ _); repeat' (first | exact trivial | exact eqSV_refl _ | (refine eqI ?_) | (refine eqS ?_) | (with_reducible exact rfl) | apply And.intro | exact Nat.zero_lt_one | exact Nat.le_of_ble_eq_true rfl | (with_reducible assumption) | ((show (_ : Int) = _); (try dsimp only); omega) | ((show eqSV _ _); simp [eqSV, isB, bval, *]; done) | rfl))); done) | trace_state
  · have e : k = 1 := by omega
    subst e
    rw [← hC] at *
    repeat' (first | ((with_reducible first | show wpS _ _ _ _ | show putD _ _ _ _ | show putW _ _ _ _ | show splitG _ _ _ | show wpQ _ _ _ _ _ _ | show wpD _ _ _ _ _ _ _ | show wpX _ _ _ _ _ _ _ | show expX _ _ _ _ _ _ | show stepX _ _ _ _ | show keepR _ _ _ | show wpY _ _ _ _); conv => whnf) | ((with_reducible show RetN _ _ _); refine retB fun β => ?_) | ((with_reducible show _ ∧ _); first | (apply And.intro; (· intro h; exfalso; first | omega | (revert h; decide)); intro _) | (apply And.intro; rotate_left; (· intro h; exfalso; first | omega | (revert h; decide)); intro _) | (refine ⟨fun _ => ?_, fun _ => ?_⟩) | (apply And.intro; · kernel_rfl) | (apply And.intro; · (show inK _ _; unfold inK; omega)) | (apply And.intro; · (show (_ : Int) ≤ 9223372036854775807; (try simp only [List.length_append, List.length_drop, List.length_take, List.length_cons, List.length_nil]); omega))) | ((with_reducible show AllBe _); refine allBe fun βe => ?_; conv => whnf) | ((with_reducible show bothX _ _); refine bothI ?_ ?_; conv => whnf) | (with_reducible exact trivial) | ((with_reducible show CallN _ _ _ _ _ _ _ _); refine call_of env_ok rfl 1000 ?_) | ((with_reducible show XopN _ _ _ _ _ _); refine xop_of env_ok rfl 1000 ?_) | ((with_reducible show CallX _ _ _ _ _ _); first | fail) | ((with_reducible show OpX _ _ _ _); first | fail) | ((with_reducible show ∃ _ : SV, _); first | fail) | ((with_reducible show ∃ _, _); first | fail))
    all_goals first | (exfalso; omega) | (obtain ⟨rfl, rfl⟩ := hB (fun h => by have := h.2.2; omega); rfl) | (obtain ⟨rfl, rfl⟩ := hG (by omega) hj (by omega) (by omega) (by omega); rfl) | trace_state
set_option maxRecDepth 100000 in
set_option maxHeartbeats 4000000 in
theorem rrune_3 (s : List UInt8) (R1 R2 : Nat) (w : World) (hs : s ≠ []) (hl : s.length ≤ 9223372036854775807) (h1 : 224 ≤ VaP.bt s 0) (h2 : VaP.bt s 0 < 240) (C : Nat) (hC : C = VaP.cvF s (VaP.bt s 0 % 16) 2)
    (hG : 3 ≤ s.length → (∀ j, 1 ≤ j → j < 3 → VaP.bt s j / 64 = 2) → 2048 ≤ C → (C < 55296 ∨ 57344 ≤ C) → C ≤ 1114111 → R1 = C ∧ R2 = 3)
    (hB : ¬ (3 ≤ s.length ∧ (∀ j, 1 ≤ j → j < 3 → VaP.bt s j / 64 = 2) ∧ 2048 ≤ C ∧ (C < 55296 ∨ 57344 ≤ C) ∧ C ≤ 1114111) → R1 = 0 ∧ R2 = 0) :
    Calls Tryd.prog 14 #[.string (bstr s)] w fun e w' => e = .returned (.tuple #[.int .i64 (R1 : Nat), .int .i64 (R2 : Nat)]) ∧ Below w.heap.size w w' := by
  have hl0 := List.length_pos_iff.2 hs
  have hbt := VaP.bt_lt s
  have hcv := VaP.cvF_le s (VaP.bt s 0 % 16) (by omega)
  have hst : ∀ k, VaP.cvF s (VaP.bt s 0 % 16) (k + 1) = VaP.cvF s (VaP.bt s 0 % 16) k * 64 + VaP.bt s (k + 1) % 64 := fun _ => rfl
  have hz : VaP.cvF s (VaP.bt s 0 % 16) 0 = VaP.bt s 0 % 16 := rfl
  have hget : ∀ j, (s.getD j 0).toNat = VaP.bt s j := fun _ => rfl
  generalize VaP.cvF s (VaP.bt s 0 % 16) = CV at *
  generalize VaP.bt s = B at *
  have hg0 := hget 0
  have hb0 := hbt 0
  refine enter env_ok Tryd.func14 rfl Tryd.results14 Tryd.ntmps14 [] [] [.str s] (by simp [SV.oks, SV.ok]) (Nat.le_of_ble_eq_true rfl) w _ 1000 ?_
  repeat' (first | ((with_reducible first | show wpS _ _ _ _ | show putD _ _ _ _ | show putW _ _ _ _ | show splitG _ _ _ | show wpQ _ _ _ _ _ _ | show wpD _ _ _ _ _ _ _ | show wpX _ _ _ _ _ _ _ | show expX _ _ _ _ _ _ | show stepX _ _ _ _ | show keepR _ _ _ | show wpY _ _ _ _); conv => whnf) | ((with_reducible show RetN _ _ _); refine retB fun β => ?_) | ((with_reducible show _ ∧ _); first | (apply And.intro; (· intro h; exfalso; first | omega | (revert h; decide)); intro _) | (apply And.intro; rotate_left; (· intro h; exfalso; first | omega | (revert h; decide)); intro _) | (refine ⟨fun _ => ?_, fun _ => ?_⟩) | (apply And.intro; · kernel_rfl) | (apply And.intro; · (show inK _ _; unfold inK; omega)) | (apply And.intro; · (show (_ : Int) ≤ 9223372036854775807; (try simp only [List.length_append, List.length_drop, List.length_take, List.length_cons, List.length_nil]); omega))) | ((with_reducible show AllBe _); refine allBe fun βe => ?_; conv => whnf) | ((with_reducible show bothX _ _); refine bothI ?_ ?_; conv => whnf) | (with_reducible exact trivial) | ((with_reducible show CallN _ _ _ _ _ _ _ _); refine call_of env_ok rfl 1000 ?_) | ((with_reducible show XopN _ _ _ _ _ _); refine xop_of env_ok rfl 1000 ?_) | ((with_reducible show CallX _ _ _ _ _ _); first | fail) | ((with_reducible show OpX _ _ _ _); first | fail) | ((with_reducible show ∃ _ : SV, _); first | (refine ⟨.int .i64 ((B 0 % 16 : Nat) : Int), ?ok, x_and _ (by rw [hget 0]; exact Bi.i64_and (B 0) 15 _ (by have := hbt 0; omega) (by omega) (Bi.and_15 _)), ?_⟩; (case ok => exact fun _ _ => trivial))) | ((with_reducible show ∃ _, _); first | (refine ⟨0, rfl, hl0, ?_⟩)))
  all_goals first | (exfalso; have := hget 0; omega) | (obtain ⟨rfl, rfl⟩ := hB (fun h => by have := h.1; omega); rfl) | skip
  refine loop env_ok rfl (T := {k : Nat // k + 1 ≤ 3 ∧ ∀ j, 1 ≤ j → j < k + 1 → B j / 64 = 2}) (fun t => ⟨[(0, .str s), (4, .int .i64 (CV t.1 : Nat)), (5, .int .i64 3), (6, .int .i64 2048), (7, .int .i64 ((t.1 : Nat) + 1))], [], 0, 81⟩) (fun t => 3 - t.1) ⟨0, by omega, fun j h1 h2 => by omega⟩ 1000 [] [] (fun _ => Nat.zero_le _) (by ((with_reducible show wk _ _); repeat' (first | exact trivial | exact eqSV_refl _ | (refine eqI ?_) | (refine eqS ?_) | (with_reducible exact rfl) | apply And.intro | exact Nat.zero_lt_one | exact Nat.le_of_ble_eq_true rfl | (with_reducible assumption) | ((show (_ : Int) = _); (try dsimp only); omega) | ((show eqSV _ _); simp [eqSV, isB, bval, *]; done) | rfl))) (fun t I hI => ?_)
  obtain ⟨k, hk, hj⟩ := t
  dsimp only
  have hk3 : k ≤ 3 := by omega
  have hcvk : CV k ≤ 8388607 := by
    have : k = 0 ∨ k = 1 ∨ k = 2 ∨ k = 3 := by omega
    rcases this with rfl | rfl | rfl | rfl <;> omega
  have hb1 := hbt (k + 1)
  have hs1 := hst k
  have hg1 := hget (k + 1)
  by_cases hlt : k + 1 < 3
  · repeat' (first | ((with_reducible first | show wpS _ _ _ _ | show putD _ _ _ _ | show putW _ _ _ _ | show splitG _ _ _ | show wpQ _ _ _ _ _ _ | show wpD _ _ _ _ _ _ _ | show wpX _ _ _ _ _ _ _ | show expX _ _ _ _ _ _ | show stepX _ _ _ _ | show keepR _ _ _ | show wpY _ _ _ _); conv => whnf) | ((with_reducible show RetN _ _ _); refine retB fun β => ?_) | ((with_reducible show _ ∧ _); first | (apply And.intro; (· intro h; exfalso; first | omega | (revert h; decide)); intro _) | (apply And.intro; rotate_left; (· intro h; exfalso; first | omega | (revert h; decide)); intro _) | (refine ⟨fun _ => ?_, fun _ => ?_⟩) | (apply And.intro; · kernel_rfl) | (apply And.intro; · (show inK _ _; unfold inK; omega)) | (apply And.intro; · (show (_ : Int) ≤ 9223372036854775807; (try simp only [List.length_append, List.length_drop, List.length_take, List.length_cons, List.length_nil]); omega))) | ((with_reducible show AllBe _); refine allBe fun βe => ?_; conv => whnf) | ((with_reducible show bothX _ _); refine bothI ?_ ?_; conv => whnf) | (with_reducible exact trivial) | ((with_reducible show CallN _ _ _ _ _ _ _ _); refine call_of env_ok rfl 1000 ?_) | ((with_reducible show XopN _ _ _ _ _ _); refine xop_of env_ok rfl 1000 ?_) | ((with_reducible show CallX _ _ _ _ _ _); first | fail) | ((with_reducible show OpX _ _ _ _); first | fail) | ((with_reducible show ∃ _ : SV, _); first | (refine ⟨.int .u8 ((B (k + 1) / 64 * 64 : Nat) : Int), ?ok, x_and _ (by rw [hg1]; exact Bi.u8_and (B (k + 1)) 192 _ (by omega) (by omega) (Bi.and_192 _ (by omega))), ?_⟩; (case ok => exact fun _ _ => trivial)) | (refine ⟨.int .u8 ((B (k + 1) % 64 : Nat) : Int), ?ok, x_and _ (by rw [hg1]; exact Bi.u8_and (B (k + 1)) 63 _ (by omega) (by omega) (Bi.and_63 _)), ?_⟩; (case ok => exact fun _ _ => trivial)) | (refine ⟨.int .i64 ((CV k * 64 : Nat) : Int), ?ok, x_shlE 6 _ rfl (by rw [Int.natCast_mul]; rfl) (by decide) (by simp only [inK]; omega), ?_⟩; (case ok => exact fun _ _ => trivial)) | (refine ⟨.int .i64 ((CV k * 64 + B (k + 1) % 64 : Nat) : Int), ?ok, x_or _ (Bi.i64_or (CV k * 64) (B (k + 1) % 64) _ (by omega) (by omega) (Bi.or_64 _ _ (by omega))), ?_⟩; (case ok => exact fun _ _ => trivial))) | ((with_reducible show ∃ _, _); first | (refine ⟨k + 1, rfl, by omega, ?_⟩)))
    all_goals first | (exfalso; omega) | (obtain ⟨rfl, rfl⟩ := hB (fun h => by have := h.2.1 (k + 1) (by omega) hlt; omega); rfl) | (rw [← hs1]; refine hI _ ⟨k + 1, by omega, fun j h1 h2 => (Nat.lt_or_ge j (k + 1)).elim (fun h => hj j h1 h) (fun h => by { have e : j = k + 1 := by { omega }; rw [e]; omega })⟩ (by dsimp only; omega) (by ((with_reducible show wk _ _); repeat' (first | exact trivial | exact eqSV_refl _ | (refine eqI ?_) | (refine eqS ?_) | (with_reducible exact rfl) | apply And.intro | exact Nat.zero_lt_one | exact Nat.le_of_ble_eq_true rfl | (with_reducible assumption) | ((show (_ : Int) = _); (try dsimp only); omega) | ((show eqSV _ _); simp [eqSV, isB, bval, *]; done) | rfl))); done) | trace_state
  · have e : k = 2 := by omega
    subst e
    rw [← hC] at *
    repeat' (first | ((with_reducible first | show wpS _ _ _ _ | show putD _ _ _ _ | show putW _ _ _ _ | show splitG _ _ _ | show wpQ _ _ _ _ _ _ | show wpD _ _ _ _ _ _ _ | show wpX _ _ _ _ _ _ _ | show expX _ _ _ _ _ _ | show stepX _ _ _ _ | show keepR _ _ _ | show wpY _ _ _ _); conv => whnf) | ((with_reducible show RetN _ _ _); refine retB fun β => ?_) | ((with_reducible show _ ∧ _); first | (apply And.intro; (· intro h; exfalso; first | omega | (revert h; decide)); intro _) | (apply And.intro; rotate_left; (· intro h; exfalso; first | omega | (revert h; decide)); intro _) | (refine ⟨fun _ => ?_, fun _ => ?_⟩) | (apply And.intro; · kernel_rfl) | (apply And.intro; · (show inK _ _; unfold inK; omega)) | (apply And.intro; · (show (_ : Int) ≤ 9223372036854775807; (try simp only [List.length_append, List.length_drop, List.length_take, List.length_cons, List.length_nil]); omega))) | ((with_reducible show AllBe _); refine allBe fun βe => ?_; conv => whnf) | ((with_reducible show bothX _ _); refine bothI ?_ ?_; conv => whnf) | (with_reducible exact trivial) | ((with_reducible show CallN _ _ _ _ _ _ _ _); refine call_of env_ok rfl 1000 ?_) | ((with_reducible show XopN _ _ _ _ _ _); refine xop_of env_ok rfl 1000 ?_) | ((with_reducible show CallX _ _ _ _ _ _); first | fail) | ((with_reducible show OpX _ _ _ _); first | fail) | ((with_reducible show ∃ _ : SV, _); first | fail) | ((with_reducible show ∃ _, _); first | fail))
    all_goals first | (exfalso; omega) | (obtain ⟨rfl, rfl⟩ := hB (fun h => by have := h.2.2; omega); rfl) | (obtain ⟨rfl, rfl⟩ := hG (by omega) hj (by omega) (by omega) (by omega); rfl) | trace_state
set_option maxRecDepth 100000 in
set_option maxHeartbeats 4000000 in
theorem rrune_4 (s : List UInt8) (R1 R2 : Nat) (w : World) (hs : s ≠ []) (hl : s.length ≤ 9223372036854775807) (h1 : 240 ≤ VaP.bt s 0) (h2 : VaP.bt s 0 < 245) (C : Nat) (hC : C = VaP.cvF s (VaP.bt s 0 % 8) 3)
    (hG : 4 ≤ s.length → (∀ j, 1 ≤ j → j < 4 → VaP.bt s j / 64 = 2) → 65536 ≤ C → (C < 55296 ∨ 57344 ≤ C) → C ≤ 1114111 → R1 = C ∧ R2 = 4)
    (hB : ¬ (4 ≤ s.length ∧ (∀ j, 1 ≤ j → j < 4 → VaP.bt s j / 64 = 2) ∧ 65536 ≤ C ∧ (C < 55296 ∨ 57344 ≤ C) ∧ C ≤ 1114111) → R1 = 0 ∧ R2 = 0) :
    Calls Tryd.prog 14 #[.string (bstr s)] w fun e w' => e = .returned (.tuple #[.int .i64 (R1 : Nat), .int .i64 (R2 : Nat)]) ∧ Below w.heap.size w w' := by
  have hl0 := List.length_pos_iff.2 hs
  have hbt := VaP.bt_lt s
  have hcv := VaP.cvF_le s (VaP.bt s 0 % 8) (by omega)
  have hst : ∀ k, VaP.cvF s (VaP.bt s 0 % 8) (k + 1) = VaP.cvF s (VaP.bt s 0 % 8) k * 64 + VaP.bt s (k + 1) % 64 := fun _ => rfl
  have hz : VaP.cvF s (VaP.bt s 0 % 8) 0 = VaP.bt s 0 % 8 := rfl
  have hget : ∀ j, (s.getD j 0).toNat = VaP.bt s j := fun _ => rfl
  generalize VaP.cvF s (VaP.bt s 0 % 8) = CV at *
  generalize VaP.bt s = B at *
  have hg0 := hget 0
  have hb0 := hbt 0
  refine enter env_ok Tryd.func14 rfl Tryd.results14 Tryd.ntmps14 [] [] [.str s] (by simp [SV.oks, SV.ok]) (Nat.le_of_ble_eq_true rfl) w _ 1000 ?_
  repeat' (first | ((with_reducible first | show wpS _ _ _ _ | show putD _ _ _ _ | show putW _ _ _ _ | show splitG _ _ _ | show wpQ _ _ _ _ _ _ | show wpD _ _ _ _ _ _ _ | show wpX _ _ _ _ _ _ _ | show expX _ _ _ _ _ _ | show stepX _ _ _ _ | show keepR _ _ _ | show wpY _ _ _ _); conv => whnf) | ((with_reducible show RetN _ _ _); refine retB fun β => ?_) | ((with_reducible show _ ∧ _); first | (apply And.intro; (· intro h; exfalso; first | omega | (revert h; decide)); intro _) | (apply And.intro; rotate_left; (· intro h; exfalso; first | omega | (revert h; decide)); intro _) | (refine ⟨fun _ => ?_, fun _ => ?_⟩) | (apply And.intro; · kernel_rfl) | (apply And.intro; · (show inK _ _; unfold inK; omega)) | (apply And.intro; · (show (_ : Int) ≤ 9223372036854775807; (try simp only [List.length_append, List.length_drop, List.length_take, List.length_cons, List.length_nil]); omega))) | ((with_reducible show AllBe _); refine allBe fun βe => ?_; conv => whnf) | ((with_reducible show bothX _ _); refine bothI ?_ ?_; conv => whnf) | (with_reducible exact trivial) | ((with_reducible show CallN _ _ _ _ _ _ _ _); refine call_of env_ok rfl 1000 ?_) | ((with_reducible show XopN _ _ _ _ _ _); refine xop_of env_ok rfl 1000 ?_) | ((with_reducible show CallX _ _ _ _ _ _); first | fail) | ((with_reducible show OpX _ _ _ _); first | fail) | ((with_reducible show ∃ _ : SV, _); first | (refine ⟨.int .i64 ((B 0 % 8 : Nat) : Int), ?ok, x_and _ (by rw [hget 0]; exact Bi.i64_and (B 0) 7 _ (by have := hbt 0; omega) (by omega) (Bi.and_7 _)), ?_⟩; (case ok => exact fun _ _ => trivial))) | ((with_reducible show ∃ _, _); first | (refine ⟨0, rfl, hl0, ?_⟩)))
  all_goals first | (exfalso; have := hget 0; omega) | (obtain ⟨rfl, rfl⟩ := hB (fun h => by have := h.1; omega); rfl) | skip
  refine loop env_ok rfl (T := {k : Nat // k + 1 ≤ 4 ∧ ∀ j, 1 ≤ j → j < k + 1 → B j / 64 = 2}) (fun t => ⟨[(0, .str s), (4, .int .i64 (CV t.1 : Nat)), (5, .int .i64 4), (6, .int .i64 65536), (7, .int .i64 ((t.1 : Nat) + 1))], [], 0, 81⟩) (fun t => 4 - t.1) ⟨0, by omega, fun j h1 h2 => by omega⟩ 1000 [] [] (fun _ => Nat.zero_le _) (by ((with_reducible show wk _ _); repeat' (first | exact trivial | exact eqSV_refl _ | (refine eqI ?_) | (refine eqS ?_) | (with_reducible exact rfl) | apply And.intro | exact Nat.zero_lt_one | exact Nat.le_of_ble_eq_true rfl | (with_reducible assumption) | ((show (_ : Int) = _); (try dsimp only); omega) | ((show eqSV _ _); simp [eqSV, isB, bval, *]; done) | rfl))) (fun t I hI => ?_)
  obtain ⟨k, hk, hj⟩ := t
  dsimp only
  have hk3 : k ≤ 3 := by omega
  have hcvk : CV k ≤ 8388607 := by
    have : k = 0 ∨ k = 1 ∨ k = 2 ∨ k = 3 := by omega
    rcases this with rfl | rfl | rfl | rfl <;> omega
  have hb1 := hbt (k + 1)
  have hs1 := hst k
  have hg1 := hget (k + 1)
  by_cases hlt : k + 1 < 4
  · repeat' (first | ((with_reducible first | show wpS _ _ _ _ | show putD _ _ _ _ | show putW _ _ _ _ | show splitG _ _ _ | show wpQ _ _ _ _ _ _ | show wpD _ _ _ _ _ _ _ | show wpX _ _ _ _ _ _ _ | show expX _ _ _ _ _ _ | show stepX _ _ _ _ | show keepR _ _ _ | show wpY _ _ _ _); conv => whnf) | ((with_reducible show RetN _ _ _); refine retB fun β => ?_) | ((with_reducible show _ ∧ _); first | (apply And.intro; (· intro h; exfalso; first | omega | (revert h; decide)); intro _) | (apply And.intro; rotate_left; (· intro h; exfalso; first | omega | (revert h; decide)); intro _) | (refine ⟨fun _ => ?_, fun _ => ?_⟩) | (apply And.intro; · kernel_rfl) | (apply And.intro; · (show inK _ _; unfold inK; omega)) | (apply And.intro; · (show (_ : Int) ≤ 9223372036854775807; (try simp only [List.length_append, List.length_drop, List.length_take, List.length_cons, List.length_nil]); omega))) | ((with_reducible show AllBe _); refine allBe fun βe => ?_; conv => whnf) | ((with_reducible show bothX _ _); refine bothI ?_ ?_; conv => whnf) | (with_reducible exact trivial) | ((with_reducible show CallN _ _ _ _ _ _ _ _); refine call_of env_ok rfl 1000 ?_) | ((with_reducible show XopN _ _ _ _ _ _); refine xop_of env_ok rfl 1000 ?_) | ((with_reducible show CallX _ _ _ _ _ _); first | fail) | ((with_reducible show OpX _ _ _ _); first | fail) | ((with_reducible show ∃ _ : SV, _); first | (refine ⟨.int .u8 ((B (k + 1) / 64 * 64 : Nat) : Int), ?ok, x_and _ (by rw [hg1]; exact Bi.u8_and (B (k + 1)) 192 _ (by omega) (by omega) (Bi.and_192 _ (by omega))), ?_⟩; (case ok => exact fun _ _ => trivial)) | (refine ⟨.int .u8 ((B (k + 1) % 64 : Nat) : Int), ?ok, x_and _ (by rw [hg1]; exact Bi.u8_and (B (k + 1)) 63 _ (by omega) (by omega) (Bi.and_63 _)), ?_⟩; (case ok => exact fun _ _ => trivial)) | (refine ⟨.int .i64 ((CV k * 64 : Nat) : Int), ?ok, x_shlE 6 _ rfl (by rw [Int.natCast_mul]; rfl) (by decide) (by simp only [inK]; omega), ?_⟩; (case ok => exact fun _ _ => trivial)) | (refine ⟨.int .i64 ((CV k * 64 + B (k + 1) % 64 : Nat) : Int), ?ok, x_or _ (Bi.i64_or (CV k * 64) (B (k + 1) % 64) _ (by omega) (by omega) (Bi.or_64 _ _ (by omega))), ?_⟩; (case ok => exact fun _ _ => trivial))) | ((with_reducible show ∃ _, _); first | (refine ⟨k + 1, rfl, by omega, ?_⟩)))
    all_goals first | (exfalso; omega) | (obtain ⟨rfl, rfl⟩ := hB (fun h => by have := h.2.1 (k + 1) (by omega) hlt; omega); rfl) | (rw [← hs1]; refine hI _ ⟨k + 1, by omega, fun j h1 h2 => (Nat.lt_or_ge j (k + 1)).elim (fun h => hj j h1 h) (fun h => by { have e : j = k + 1 := by { omega }; rw [e]; omega })⟩ (by dsimp only; omega) (by ((with_reducible show wk _ _); repeat' (first | exact trivial | exact eqSV_refl _ | (refine eqI ?_) | (refine eqS ?_) | (with_reducible exact rfl) | apply And.intro | exact Nat.zero_lt_one | exact Nat.le_of_ble_eq_true rfl | (with_reducible assumption) | ((show (_ : Int) = _); (try dsimp only); omega) | ((show eqSV _ _); simp [eqSV, isB, bval, *]; done) | rfl))); done) | trace_state
  · have e : k = 3 := by omega
    subst e
    rw [← hC] at *
    repeat' (first | ((with_reducible first | show wpS _ _ _ _ | show putD _ _ _ _ | show putW _ _ _ _ | show splitG _ _ _ | show wpQ _ _ _ _ _ _ | show wpD _ _ _ _ _ _ _ | show wpX _ _ _ _ _ _ _ | show expX _ _ _ _ _ _ | show stepX _ _ _ _ | show keepR _ _ _ | show wpY _ _ _ _); conv => whnf) | ((with_reducible show RetN _ _ _); refine retB fun β => ?_) | ((with_reducible show _ ∧ _); first | (apply And.intro; (· intro h; exfalso; first | omega | (revert h; decide)); intro _) | (apply And.intro; rotate_left; (· intro h; exfalso; first | omega | (revert h; decide)); intro _) | (refine ⟨fun _ => ?_, fun _ => ?_⟩) | (apply And.intro; · kernel_rfl) | (apply And.intro; · (show inK _ _; unfold inK; omega)) | (apply And.intro; · (show (_ : Int) ≤ 9223372036854775807; (try simp only [List.length_append, List.length_drop, List.length_take, List.length_cons, List.length_nil]); omega))) | ((with_reducible show AllBe _); refine allBe fun βe => ?_; conv => whnf) | ((with_reducible show bothX _ _); refine bothI ?_ ?_; conv => whnf) | (with_reducible exact trivial) | ((with_reducible show CallN _ _ _ _ _ _ _ _); refine call_of env_ok rfl 1000 ?_) | ((with_reducible show XopN _ _ _ _ _ _); refine xop_of env_ok rfl 1000 ?_) | ((with_reducible show CallX _ _ _ _ _ _); first | fail) | ((with_reducible show OpX _ _ _ _); first | fail) | ((with_reducible show ∃ _ : SV, _); first | fail) | ((with_reducible show ∃ _, _); first | fail))
    all_goals first | (exfalso; omega) | (obtain ⟨rfl, rfl⟩ := hB (fun h => by have := h.2.2; omega); rfl) | (obtain ⟨rfl, rfl⟩ := hG (by omega) hj (by omega) (by omega) (by omega); rfl) | trace_state
set_option maxRecDepth 100000 in
theorem rrune_1 (s : List UInt8) (w : World) (hs : s ≠ []) (hl : s.length ≤ 9223372036854775807) (h1 : VaP.bt s 0 < 128) : Calls Tryd.prog 14 #[.string (bstr s)] w fun e w' => e = .returned (.tuple #[.int .i64 (VaP.bt s 0 : Nat), .int .i64 1]) ∧ Below w.heap.size w w' := by
  have hl0 := List.length_pos_iff.2 hs
  have hg0 : (s.getD 0 0).toNat = VaP.bt s 0 := rfl
  have hb0 := VaP.bt_lt s 0
  refine enter env_ok Tryd.func14 rfl Tryd.results14 Tryd.ntmps14 [] [] [.str s] (by simp [SV.oks, SV.ok]) (Nat.le_of_ble_eq_true rfl) w _ 1000 ?_
  repeat' (first | ((with_reducible first | show wpS _ _ _ _ | show putD _ _ _ _ | show putW _ _ _ _ | show splitG _ _ _ | show wpQ _ _ _ _ _ _ | show wpD _ _ _ _ _ _ _ | show wpX _ _ _ _ _ _ _ | show expX _ _ _ _ _ _ | show stepX _ _ _ _ | show keepR _ _ _ | show wpY _ _ _ _); conv => whnf) | ((with_reducible show RetN _ _ _); refine retB fun β => ?_) | ((with_reducible show _ ∧ _); first | (apply And.intro; (· intro h; exfalso; first | omega | (revert h; decide)); intro _) | (apply And.intro; rotate_left; (· intro h; exfalso; first | omega | (revert h; decide)); intro _) | (refine ⟨fun _ => ?_, fun _ => ?_⟩) | (apply And.intro; · kernel_rfl) | (apply And.intro; · (show inK _ _; unfold inK; omega)) | (apply And.intro; · (show (_ : Int) ≤ 9223372036854775807; (try simp only [List.length_append, List.length_drop, List.length_take, List.length_cons, List.length_nil]); omega))) | ((with_reducible show AllBe _); refine allBe fun βe => ?_; conv => whnf) | ((with_reducible show bothX _ _); refine bothI ?_ ?_; conv => whnf) | (with_reducible exact trivial) | ((with_reducible show CallN _ _ _ _ _ _ _ _); refine call_of env_ok rfl 1000 ?_) | ((with_reducible show XopN _ _ _ _ _ _); refine xop_of env_ok rfl 1000 ?_) | ((with_reducible show CallX _ _ _ _ _ _); first | fail) | ((with_reducible show OpX _ _ _ _); first | fail) | ((with_reducible show ∃ _ : SV, _); first | fail) | ((with_reducible show ∃ _, _); first | (refine ⟨0, rfl, hl0, ?_⟩)))
  all_goals first | (exfalso; omega) | rfl
set_option maxRecDepth 100000 in
theorem rrune_0 (s : List UInt8) (w : World) (hs : s ≠ []) (hl : s.length ≤ 9223372036854775807) (h0 : 128 ≤ VaP.bt s 0) (h1 : VaP.bt s 0 < 194 ∨ 245 ≤ VaP.bt s 0) : Calls Tryd.prog 14 #[.string (bstr s)] w fun e w' => e = .returned (.tuple #[.int .i64 0, .int .i64 0]) ∧ Below w.heap.size w w' := by
  have hl0 := List.length_pos_iff.2 hs
  have hg0 : (s.getD 0 0).toNat = VaP.bt s 0 := rfl
  have hb0 := VaP.bt_lt s 0
  refine enter env_ok Tryd.func14 rfl Tryd.results14 Tryd.ntmps14 [] [] [.str s] (by simp [SV.oks, SV.ok]) (Nat.le_of_ble_eq_true rfl) w _ 1000 ?_
  repeat' (first | ((with_reducible first | show wpS _ _ _ _ | show putD _ _ _ _ | show putW _ _ _ _ | show splitG _ _ _ | show wpQ _ _ _ _ _ _ | show wpD _ _ _ _ _ _ _ | show wpX _ _ _ _ _ _ _ | show expX _ _ _ _ _ _ | show stepX _ _ _ _ | show keepR _ _ _ | show wpY _ _ _ _); conv => whnf) | ((with_reducible show RetN _ _ _); refine retB fun β => ?_) | ((with_reducible show _ ∧ _); first | (apply And.intro; (· intro h; exfalso; first | omega | (revert h; decide)); intro _) | (apply And.intro; rotate_left; (· intro h; exfalso; first | omega | (revert h; decide)); intro _) | (refine ⟨fun _ => ?_, fun _ => ?_⟩) | (apply And.intro; · kernel_rfl) | (apply And.intro; · (show inK _ _; unfold inK; omega)) | (apply And.intro; · (show (_ : Int) ≤ 9223372036854775807; (try simp only [List.length_append, List.length_drop, List.length_take, List.length_cons, List.length_nil]); omega))) | ((with_reducible show AllBe _); refine allBe fun βe => ?_; conv => whnf) | ((with_reducible show bothX _ _); refine bothI ?_ ?_; conv => whnf) | (with_reducible exact trivial) | ((with_reducible show CallN _ _ _ _ _ _ _ _); refine call_of env_ok rfl 1000 ?_) | ((with_reducible show XopN _ _ _ _ _ _); refine xop_of env_ok rfl 1000 ?_) | ((with_reducible show CallX _ _ _ _ _ _); first | fail) | ((with_reducible show OpX _ _ _ _); first | fail) | ((with_reducible show ∃ _ : SV, _); first | fail) | ((with_reducible show ∃ _, _); first | (refine ⟨0, rfl, hl0, ?_⟩)))
  all_goals first | (exfalso; omega) | rfl
/-- the first character of a text, and its length -/
theorem rrune_any (s : List UInt8) (w : World) (hs : s ≠ []) (hl : s.length ≤ 9223372036854775807) : Calls Tryd.prog 14 #[.string (bstr s)] w fun e w' => e = .returned (.tuple #[.int .i64 ((VaP.rune s).1 : Nat), .int .i64 ((VaP.rune s).2 : Nat)]) ∧ Below w.heap.size w w' := by
  have b0 := VaP.bt_lt s 0
  have b1 := VaP.bt_lt s 1
  have b2 := VaP.bt_lt s 2
  have b3 := VaP.bt_lt s 3
  by_cases c1 : VaP.bt s 0 < 128
  · rw [VaP.rune_1 hs c1]; exact rrune_1 s w hs hl c1
  by_cases c2 : VaP.bt s 0 < 194 ∨ 245 ≤ VaP.bt s 0
  · rw [VaP.rune_0 hs (by omega) c2]; exact rrune_0 s w hs hl (by omega) c2
  by_cases c3 : VaP.bt s 0 < 224
  · have hr := VaP.rune_2 hs (by omega) c3
    refine rrune_2 s _ _ w hs hl (by omega) c3 _ rfl (fun h1 h2 h3 h4 h5 => ?_) (fun h => ?_)
    · rw [hr, if_pos ⟨by omega, h2 1 (by omega) (by omega)⟩]; exact ⟨rfl, rfl⟩
    · rw [hr, if_neg]
      · exact ⟨rfl, rfl⟩
      · rintro ⟨h1, h2⟩
        refine h ⟨by omega, fun j j1 j2 => by have e : j = 1 := by { omega }; rw [e]; exact h2, ?_⟩
        show 128 ≤ VaP.bt s 0 % 32 * 64 + VaP.bt s 1 % 64 ∧ (VaP.bt s 0 % 32 * 64 + VaP.bt s 1 % 64 < 55296 ∨ 57344 ≤ VaP.bt s 0 % 32 * 64 + VaP.bt s 1 % 64) ∧ VaP.bt s 0 % 32 * 64 + VaP.bt s 1 % 64 ≤ 1114111
        omega
  by_cases c4 : VaP.bt s 0 < 240
  · have hr := VaP.rune_3 hs (by omega) c4
    have e : VaP.cvF s (VaP.bt s 0 % 16) 2 = VaP.bt s 0 % 16 * 4096 + VaP.bt s 1 % 64 * 64 + VaP.bt s 2 % 64 := by
      show (VaP.bt s 0 % 16 * 64 + VaP.bt s 1 % 64) * 64 + VaP.bt s 2 % 64 = _; omega
    rw [← e] at hr
    refine rrune_3 s _ _ w hs hl (by omega) c4 _ rfl (fun h1 h2 h3 h4 h5 => ?_) (fun h => ?_)
    · rw [hr, if_pos ⟨⟨by omega, h2 1 (by omega) (by omega)⟩, ⟨by omega, h2 2 (by omega) (by omega)⟩, h3, h4⟩]; exact ⟨rfl, rfl⟩
    · rw [hr, if_neg]
      · exact ⟨rfl, rfl⟩
      · rintro ⟨⟨h1, h2⟩, ⟨h3, h4⟩, h5, h6⟩
        refine h ⟨by omega, fun j j1 j2 => ?_, h5, h6, by rw [e]; omega⟩
        have : j = 1 ∨ j = 2 := by omega
        rcases this with rfl | rfl
        · exact h2
        · exact h4
  · have hr := VaP.rune_4 hs (by omega) (by omega)
    have e : VaP.cvF s (VaP.bt s 0 % 8) 3 = VaP.bt s 0 % 8 * 262144 + VaP.bt s 1 % 64 * 4096 + VaP.bt s 2 % 64 * 64 + VaP.bt s 3 % 64 := by
      show ((VaP.bt s 0 % 8 * 64 + VaP.bt s 1 % 64) * 64 + VaP.bt s 2 % 64) * 64 + VaP.bt s 3 % 64 = _; omega
    rw [← e] at hr
    refine rrune_4 s _ _ w hs hl (by omega) (by omega) _ rfl (fun h1 h2 h3 h4 h5 => ?_) (fun h => ?_)
    · rw [hr, if_pos ⟨⟨by omega, h2 1 (by omega) (by omega)⟩, ⟨by omega, h2 2 (by omega) (by omega)⟩, ⟨by omega, h2 3 (by omega) (by omega)⟩, h3, h5⟩]; exact ⟨rfl, rfl⟩
    · rw [hr, if_neg]
      · exact ⟨rfl, rfl⟩
      · rintro ⟨⟨h1, h2⟩, ⟨h3, h4⟩, ⟨h5, h6⟩, h7, h8⟩
        refine h ⟨by omega, fun j j1 j2 => ?_, h7, .inr (by omega), h8⟩
        have : j = 1 ∨ j = 2 ∨ j = 3 := by omega
        rcases this with rfl | rfl | rfl
        · exact h2
        · exact h4
        · exact h6
end Go.Proofs.YtlccmanncfbdkaaDoor
namespace Go.Proofs.YtlccmanncfbdkaaDoor
open Go.RowKit
open Sym
attribute [local irreducible] Calls Sym.AggEq
def FtP.sv (l : List FtP.Str) : List Value := l.map fun s => .string (bstr s)
theorem FtP.sv_add (l : List FtP.Str) (u : FtP.Str) : FtP.sv (l ++ [u]) = FtP.sv l ++ [.string (bstr u)] := by simp [FtP.sv]
theorem FtP.sv_get {l : List FtP.Str} {k : Nat} {u : FtP.Str} (h : l[k]? = some u) : (FtP.sv l)[k]? = some (.string (bstr u)) := by simp [FtP.sv, h]
structure RuT where
  st : Bool
  rem : List UInt8
  n : Nat
  out : List FtP.Str
  g : Nat
  cap : Nat
def RuA (s : List UInt8) (t : RuT) : Prop := t.n = t.out.length ∧ t.n + t.rem.length ≤ s.length ∧ FtP.chars s = t.out ++ FtP.chars t.rem ∧ (t.st = false → t.out = [])
abbrev ruJ (t : RuT) : St := match t.st with
  | false => ⟨[(0, .str t.rem), (3, .any (.slice none 0 0))], [], 0, 25⟩
  | true => ⟨[(0, .str t.rem), (3, .any (.slice (some ⟨t.g, 0, none⟩) t.n t.cap))], [(1, true, .blob (OwnS 9 1 t.g t.n t.cap (FtP.sv t.out)))], 2, 25⟩
theorem strInfo : (Tryd.prog.info? 9).map (fun i => (i.zero, i.size, i.bytes)) = some (some (.string (bstr [])), 1, 16) := by kernel_rfl
/-- characters, new, or none -/
def RuOut (l : List FtP.Str) (w : World) (e : Ending) (w' : World) : Prop := Below w.heap.size w w' ∧ ∃ t : {t : Option Addr × Nat // l.length ≤ t.2}, e = .returned (.slice t.1.1 l.length t.1.2) ∧ SlAt t.1.1 (FtP.sv l) w' ∧ FreshX t.1.1 (FtP.sv l) w
set_option maxRecDepth 100000 in
set_option maxHeartbeats 4000000 in
theorem runes_any (s : List UInt8) (w : World) (hs : s.length ≤ 1000) : Calls Tryd.prog 9 #[.string (bstr s)] w (RuOut (FtP.chars s) w) := by
  obtain ⟨i0, hi, hz0, hz1, hz2⟩ := info_parts strInfo
  have hu := Tryd.underlying27
  have hsz := fun w => Tryd.sizeOf9 w
  have hzv := fun w => Tryd.zeroValue9 w
  refine yE Tryd.func9 rfl Tryd.results9 Tryd.ntmps9 [] [] [.str s] w ?_
  repeat' (first | refine yX ?_ | (apply And.intro <;> intro _) | apply bothI | refine retB fun β => ?_ | intro βe | fail | exact trivial)
  refine yZ (T := {t : RuT // RuA s t}) (fun t => ruJ t.1) (fun t => t.1.rem.length) ⟨⟨false, s, 0, [], 0, 0⟩, rfl, by dsimp only; omega, rfl, fun _ => rfl⟩ [] [] (fun t I hI => ?_)
  obtain ⟨⟨st, rem, n, out, g, cap⟩, q1, q2, q3, q4⟩ := t
  dsimp only at q1 q2 q3 q4 ⊢
  by_cases h0 : rem = []
  · subst h0
    have q3 : FtP.chars s = out := q3.trans (by rw [FtP.chars_nil]; exact List.append_nil out)
    rw [q3]
    cases st
    · obtain rfl := q4 rfl
      dsimp only [ruJ]
      repeat' (first | refine yX ?_ | (apply And.intro <;> intro _) | apply bothI | refine retB fun β => ?_ | intro βe | fail | exact trivial)
      all_goals first | (exfalso; simp_all; done) | exact ret fun β w' hm => ⟨hm.below, ⟨(none, 0), Nat.zero_le _⟩, rfl, sl_nil _ _, fun h => absurd rfl h⟩
    · dsimp only [ruJ]
      repeat' (first | refine yX ?_ | (apply And.intro <;> intro _) | apply bothI | refine retB fun β => ?_ | intro βe | fail | exact trivial)
      all_goals first | (exfalso; simp_all; done) | skip
      refine ret fun β w' hm => ?_
      obtain ⟨r1, -, -, r4⟩ := hm.row 1 _ _ rfl
      subst q1
      have hcap : out.length ≤ cap := by obtain ⟨-, cur, -, h, -⟩ := r1.2; exact h
      exact ⟨hm.below, ⟨(some ⟨g, 0, none⟩, cap), hcap⟩, rfl, r1.2.slAt r1.1, fun _ ad e => by cases e; rw [← r1.2.1]; exact r4 rfl⟩
  · have hst := FtP.chars_step h0
    have hd := VaP.dec_len h0
    have R1 := fun w => rrune_any rem w h0 (by omega)
    have hr : VaP.rune rem = if VaP.dec rem = (65533, 1) then (0, 0) else VaP.dec rem := rfl
    obtain ⟨c, k, hck⟩ : ∃ c k, VaP.dec rem = (c, k) := ⟨_, _, rfl⟩
    rw [hck] at hst hd hr
    dsimp only at hst hd
    have hlen : (rem.drop k).length = rem.length - k := List.length_drop
    have hrow : ∀ l, FtP.sv (l ++ [rem.take k]) = FtP.sv l ++ [.string (bstr (rem.take k))] := fun l => FtP.sv_add l _
    have hnext : FtP.chars s = (out ++ [rem.take k]) ++ FtP.chars (rem.drop k) := by rw [q3, hst]; simp
    obtain ⟨r1, r2, hrr⟩ : ∃ r1 r2, VaP.rune rem = (r1, r2) := ⟨_, _, rfl⟩
    rw [hrr] at R1 hr
    dsimp only at R1
    have hk : (r2 = 0 ∧ k = 1) ∨ (r2 = k) := by
      by_cases hb : (c, k) = (65533, 1)
      · rw [if_pos hb] at hr; cases hr; cases hb; exact .inl ⟨rfl, rfl⟩
      · rw [if_neg hb] at hr; cases hr; exact .inr rfl
    rcases hk with ⟨rfl, rfl⟩ | rfl
    · cases st
      · obtain rfl := q4 rfl
        dsimp only [ruJ]
        repeat' (first | refine yX ?_ | (apply And.intro <;> intro _) | apply bothI | refine retB fun β => ?_ | intro βe | (refine ⟨1, rfl, by omega, ?_⟩) | refine yK (.tup [.int .i64 (r1 : Nat), .int .i64 ((0 : Nat) : Int)]) (fun β w hm => R1 w) ?_ | (refine opx_build1 (sz := 1) rfl rfl rfl (xs := [.string (bstr (rem.take 1))]) (fun β => rfl) rfl (by omega) (by omega) hu hsz hzv (fun g1 => ?_)) | (refine opx_append0 (sz := 1) 0 rfl hu hi hz0 hz1 rfl (by omega) rfl rfl rfl (by unfold maxLen; omega) (by rw [hz2]; omega) (by simp [Value.oneCell']) (by omega) (fun g2 cap2 => ?_)) | (refine opx_append0 (sz := 1) 0 rfl hu hi hz0 hz1 rfl (by omega) rfl rfl rfl rfl (by unfold maxLen; omega) (by rw [hz2]; omega) (by simp [Value.oneCell']) (by kernel_rfl) (Nat.zero_le _) (fun g2 cap2 => ?_)) | exact trivial)
        all_goals first | (exfalso; simp_all; done) | (exfalso; omega) | (refine hI _ ⟨⟨true, rem.drop 1, 1, [] ++ [rem.take 1], g2, cap2⟩, rfl, by dsimp only; omega, hnext, fun h => by cases h⟩ (by dsimp only; omega) (by ((with_reducible show wk _ _); repeat' (first | exact trivial | exact eqSV_refl _ | refine eqI ?_ | refine eqS ?_ | apply And.intro | exact yV | fail)); all_goals exact fun b x h => by first | exact h | (rw [show FtP.sv [rem.take 1] = _ from hrow []]; exact h)); done) | trace_state
      · dsimp only [ruJ]
        repeat' (first | refine yX ?_ | (apply And.intro <;> intro _) | apply bothI | refine retB fun β => ?_ | intro βe | (refine ⟨1, rfl, by omega, ?_⟩) | refine yK (.tup [.int .i64 (r1 : Nat), .int .i64 ((0 : Nat) : Int)]) (fun β w hm => R1 w) ?_ | (refine opx_build1 (sz := 1) rfl rfl rfl (xs := [.string (bstr (rem.take 1))]) (fun β => rfl) rfl (by omega) (by omega) hu hsz hzv (fun g1 => ?_)) | (refine opx_append (sz := 1) 1 2 rfl hu hi hz0 hz1 rfl (by omega) rfl rfl rfl (by unfold maxLen; omega) (by rw [hz2]; omega) (by simp [Value.oneCell']) (by omega) (fun g2 cap2 => ?_)) | (refine opx_append (sz := 1) 1 2 rfl hu hi hz0 hz1 rfl (by omega) rfl rfl rfl rfl (by unfold maxLen; omega) (by rw [hz2]; omega) (by simp [Value.oneCell']) (by kernel_rfl) (Nat.zero_le _) (fun g2 cap2 => ?_)) | exact trivial)
        all_goals first | (exfalso; simp_all; done) | (exfalso; omega) | (refine hI _ ⟨⟨true, rem.drop 1, n + 1, out ++ [rem.take 1], g2, cap2⟩, by dsimp only; rw [q1]; simp, by dsimp only; omega, hnext, fun h => by cases h⟩ (by dsimp only; omega) (by ((with_reducible show wk _ _); repeat' (first | exact trivial | exact eqSV_refl _ | refine eqI ?_ | refine eqS ?_ | apply And.intro | exact yV | fail)); all_goals exact fun b x h => by first | exact h | (rw [hrow out]; exact h)); done) | trace_state
    · cases st
      · obtain rfl := q4 rfl
        dsimp only [ruJ]
        repeat' (first | refine yX ?_ | (apply And.intro <;> intro _) | apply bothI | refine retB fun β => ?_ | intro βe | (refine ⟨r2, rfl, by omega, ?_⟩) | refine yK (.tup [.int .i64 (r1 : Nat), .int .i64 ((r2 : Nat) : Int)]) (fun β w hm => R1 w) ?_ | (refine opx_build1 (sz := 1) rfl rfl rfl (xs := [.string (bstr (rem.take r2))]) (fun β => rfl) rfl (by omega) (by omega) hu hsz hzv (fun g1 => ?_)) | (refine opx_append0 (sz := 1) 0 rfl hu hi hz0 hz1 rfl (by omega) rfl rfl rfl (by unfold maxLen; omega) (by rw [hz2]; omega) (by simp [Value.oneCell']) (by omega) (fun g2 cap2 => ?_)) | (refine opx_append0 (sz := 1) 0 rfl hu hi hz0 hz1 rfl (by omega) rfl rfl rfl rfl (by unfold maxLen; omega) (by rw [hz2]; omega) (by simp [Value.oneCell']) (by kernel_rfl) (Nat.zero_le _) (fun g2 cap2 => ?_)) | exact trivial)
        all_goals first | (exfalso; simp_all; done) | (exfalso; omega) | (refine hI _ ⟨⟨true, rem.drop r2, 1, [] ++ [rem.take r2], g2, cap2⟩, rfl, by dsimp only; omega, hnext, fun h => by cases h⟩ (by dsimp only; omega) (by ((with_reducible show wk _ _); repeat' (first | exact trivial | exact eqSV_refl _ | refine eqI ?_ | refine eqS ?_ | apply And.intro | exact yV | fail)); all_goals exact fun b x h => by first | exact h | (rw [show FtP.sv [rem.take r2] = _ from hrow []]; exact h)); done) | trace_state
      · dsimp only [ruJ]
        repeat' (first | refine yX ?_ | (apply And.intro <;> intro _) | apply bothI | refine retB fun β => ?_ | intro βe | (refine ⟨r2, rfl, by omega, ?_⟩) | refine yK (.tup [.int .i64 (r1 : Nat), .int .i64 ((r2 : Nat) : Int)]) (fun β w hm => R1 w) ?_ | (refine opx_build1 (sz := 1) rfl rfl rfl (xs := [.string (bstr (rem.take r2))]) (fun β => rfl) rfl (by omega) (by omega) hu hsz hzv (fun g1 => ?_)) | (refine opx_append (sz := 1) 1 2 rfl hu hi hz0 hz1 rfl (by omega) rfl rfl rfl (by unfold maxLen; omega) (by rw [hz2]; omega) (by simp [Value.oneCell']) (by omega) (fun g2 cap2 => ?_)) | (refine opx_append (sz := 1) 1 2 rfl hu hi hz0 hz1 rfl (by omega) rfl rfl rfl rfl (by unfold maxLen; omega) (by rw [hz2]; omega) (by simp [Value.oneCell']) (by kernel_rfl) (Nat.zero_le _) (fun g2 cap2 => ?_)) | exact trivial)
        all_goals first | (exfalso; simp_all; done) | (exfalso; omega) | (refine hI _ ⟨⟨true, rem.drop r2, n + 1, out ++ [rem.take r2], g2, cap2⟩, by dsimp only; rw [q1]; simp, by dsimp only; omega, hnext, fun h => by cases h⟩ (by dsimp only; omega) (by ((with_reducible show wk _ _); repeat' (first | exact trivial | exact eqSV_refl _ | refine eqI ?_ | refine eqS ?_ | apply And.intro | exact yV | fail)); all_goals exact fun b x h => by first | exact h | (rw [hrow out]; exact h)); done) | trace_state
end Go.Proofs.YtlccmanncfbdkaaDoor
namespace Go.Proofs.YtlccmanncfbdkaaDoor
open Go.RowKit
namespace Sym
theorem x_from {C : Ctx} {G : Blobs} {x lo : Operand} {t e : TypeId} {sz : Nat} {a : Option Addr} {len cap j : Nat} {kd : IntKind} {i : Int} (hi0 : i = (j : Nat)) (ht : C.P.underlying t = some (.slice e)) (hs : ∀ w, (sizeOf e).run C.P w = .ok sz w) (hj : j ≤ len) :
    ExtN C G (.slice t x (some lo) none none) [.any (.slice a len cap), .int kd i] (.any (.slice (if cap = j then a else a.map (·.add (j * sz))) (len - j) (cap - j))) := by
  subst hi0
  unfold ExtN
  intro ρ β w dst ty pos after gd _ hG h
  have h' : ρ x = .slice a len cap ∧ ρ lo = .int kd (j : Nat) := by simpa [opsX, optL, SV.dens, SV.den] using h
  have he : C.P.elem t = e := by simp [Program.elem, ht]
  have ht' : C.P.underlying t = some (.slice (C.P.elem t)) := by rw [he]; exact ht
  have h1 := run_slice_l (P := C.P) (w := w) t a len cap ht' kd (j : Nat) (by omega) (by omega)
  rw [he, hs] at h1
  have h3 := run_sliceAt_slice (P := C.P) (w := w) t (.slice a len cap) (some (.int kd (j : Nat))) none none ht'
  simp only [Result.andThen_ok] at h1
  simp [execOp, h'.1, h'.2, h3, h1, sliced, SV.den]
theorem Sat.take1 {base : Nat} {w0 : Base} {β : Nat → Nat} {a : Act} {w : World} {fr : List (Nat × SV)} {rows : List (Nat × Bool × SRow)} {nx n : Nat} (i j : Nat) {Φ : Nat → Option Obj → Prop} (hs : Sat base w0 ⟨fr, rows, nx, n⟩ β a w) (hj : get rows j = some (true, .blob Φ))
    (hi : i < nx) (hn0 : w0.n0 ≤ i) (hno : mentF i fr = false) : Sat base w0 ⟨fr, [(i, true, .blob Φ)], nx, n⟩ (fun p => if p = i then β j else β p) a w := by
  obtain ⟨h1, h2, h3, h4⟩ := hs
  have hβ : ∀ p, p ≠ i → (fun p => if p = i then β j else β p) p = β p := fun p hp => by dsimp only; rw [if_neg hp]
  obtain ⟨k1, -, k3, k4⟩ := h4.row j _ _ hj
  have hcase : ∀ p ow r, get [(i, true, SRow.blob Φ)] p = some (ow, r) → (p = i ∧ ow = true ∧ r = .blob Φ) := fun p ow r hp => by
    rw [get_cons] at hp
    by_cases e : i = p
    · rw [if_pos e] at hp; cases hp; exact ⟨e.symm, rfl, rfl⟩
    · rw [if_neg e] at hp; cases hp
  refine ⟨h1, h2, fun s v hv => ?_, ?_⟩
  · obtain ⟨e1, e2⟩ := h3 s v hv
    exact ⟨by rw [e1, ment_den hβ v (mentF_get fr hno hv)], e2⟩
  refine ⟨h4.below, h4.base_le, fun p ow r hp => ?_, fun p hp => ?_, fun p p' r ow r' hp hp' hpp => ?_, h4.n0, fun p hp => ?_⟩
  · obtain ⟨rfl, rfl, rfl⟩ := hcase p ow r hp
    try dsimp only
    rw [if_pos rfl]
    exact ⟨k1, trivial, hi, fun _ => k4 rfl⟩
  · have hp : p < nx := hp
    try dsimp only
    split
    · exact h4.lt j k3
    · exact h4.lt p hp
  · obtain ⟨rfl, -, -⟩ := hcase p true r hp
    obtain ⟨rfl, -, -⟩ := hcase p' ow r' hp'
    exact absurd rfl hpp
  · have hp : p < w0.n0 := hp
    try dsimp only
    rw [if_neg (by omega)]; exact h4.ext p hp
theorem back_take1 {C : Ctx} {I : Act → World → Prop} {fr : List (Nat × SV)} {rows : List (Nat × Bool × SRow)} {nx n : Nat} (i j : Nat) {Φ : Nat → Option Obj → Prop} (hj : get rows j = some (true, .blob Φ))
    (hi : Nat.blt i nx = true) (hn0 : C.w0.n0 ≤ i) (hno : mentF i fr = false) (h : BackN C I ⟨fr, [(i, true, .blob Φ)], nx, n⟩) : BackN C I ⟨fr, rows, nx, n⟩ := by
  unfold BackN at h ⊢
  intro β a w hs
  exact h _ a w (hs.take1 i j hj (by simpa [Nat.blt_eq] using hi) hn0 hno)
end Sym
end Go.Proofs.YtlccmanncfbdkaaDoor
