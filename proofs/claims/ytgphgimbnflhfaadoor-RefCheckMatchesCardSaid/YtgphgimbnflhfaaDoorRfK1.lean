/- References: numbers and columns as text, the program's and the reference's. -/
import Derived.Test.YtgphgimbnflhfaaDoorSz7
import Derived.Test.YtgphgimbnflhfaaDoorRfT0
import Derived.Test.YtgphgimbnflhfaaDoorRfPlain7
import Derived.Test.YtgphgimbnflhfaaDoorShelf2
set_option linter.unusedSimpArgs false
set_option linter.unusedVariables false
namespace Go.Proofs.YtgphgimbnflhfaaDoor
open Go.RowKit
open Sym
attribute [local irreducible] Calls
theorem digit_byte (k : Nat) (h : k < 10) : [Value.int .u8 (48 + (k : Int))] = bvals [UInt8.ofNat (48 + k)] := by
  rw [bvals_one]
  have : (UInt8.ofNat (48 + k)).toNat = 48 + k := by simp; omega
  rw [this]
  simp
set_option maxRecDepth 100000 in
set_option maxHeartbeats 2000000 in
theorem Decimal_any (n : Nat) : n < 4294967296 → ∀ w, Calls Tryd.prog 60 #[.int .i64 (n : Int)] w fun e w' => e = .returned (.string (bstr (Lib.decDigits n))) ∧ Below w.heap.size w w' := by
  induction n using Nat.strongRecOn with
  | _ n ih =>
  intro hn w
  by_cases h : n < 10
  · rw [Lib.decDigits_one h]
    refine enter env_ok Tryd.func60 rfl Tryd.results60 Tryd.ntmps60 [] [] [.int .i64 (n : Int)] (by simp [SV.oks, SV.ok]) (Nat.le_of_ble_eq_true rfl) w _ 1000 ?_
    repeat' (first | ((with_reducible first | show wpS _ _ _ _ | show putD _ _ _ _ | show putW _ _ _ _ | show splitG _ _ _ | show wpQ _ _ _ _ _ _ | show wpD _ _ _ _ _ _ _ | show wpX _ _ _ _ _ _ | show expX _ _ _ _ _ _ | show stepX _ _ _ _); conv => whnf) | ((with_reducible show RetN _ _ _); refine retB fun β => ?_) | ((with_reducible show _ ∧ _); first | (apply And.intro; (· intro h; exfalso; first | omega | (revert h; decide)); intro _) | (apply And.intro; rotate_left; (· intro h; exfalso; first | omega | (revert h; decide)); intro _) | (refine ⟨fun _ => ?_, fun _ => ?_⟩) | (apply And.intro; · kernel_rfl) | (apply And.intro; · (show inK _ _; unfold inK; omega)) | (apply And.intro; · (show (_ : Int) ≤ 9223372036854775807; simp only [List.length_append, List.length_drop, List.length_take, List.length_cons, List.length_nil]; omega))) | ((with_reducible show bothX _ _); refine bothI ?_ ?_; conv => whnf) | (with_reducible exact trivial) | ((with_reducible show CallN _ _ _ _ _ _ _ _); refine call_of env_ok rfl 1000 ?_) | ((with_reducible show XopN _ _ _ _ _ _); refine xop_of env_ok rfl 1000 ?_) | ((with_reducible show CallX _ _ _ _ _ _); first | fail) | ((with_reducible show OpX _ _ _ _); first | (refine opx_one rfl rfl Tryd.underlying56 (fun w => Tryd.sizeOf5 w) (fun w => Tryd.zeroValue5 w) rfl (fun g => ?_))) | ((with_reducible show ∃ _ : SV, _); first | (refine ⟨_, ?ok, x_bytesStr 0 [UInt8.ofNat (48 + n)] Tryd.underlying56 Tryd.underlying5 Tryd.underlying9 rfl (digit_byte n h), ?_⟩; (case ok => exact fun _ _ => trivial))) | ((with_reducible show ∃ _, _); first | fail))
    rfl
  · have hD : Lib.decDigits n = Lib.decDigits (n / 10) ++ [UInt8.ofNat (48 + n % 10)] := by rw [Lib.decDigits, dif_neg h]
    have HI := ih (n / 10) (by omega) (by omega)
    have hL := RfP.dig_len (n / 10) (by omega)
    have hq : (n : Int) / 10 = ((n / 10 : Nat) : Int) := by omega
    have hr : (n : Int) % 10 = ((n % 10 : Nat) : Int) := by omega
    have hm := digit_byte (n % 10) (by omega)
    rw [hD]
    clear ih hD
    generalize Lib.decDigits (n / 10) = L at *
    refine enter env_ok Tryd.func60 rfl Tryd.results60 Tryd.ntmps60 [] [] [.int .i64 (n : Int)] (by simp [SV.oks, SV.ok]) (Nat.le_of_ble_eq_true rfl) w _ 1000 ?_
    repeat' (first | ((with_reducible first | show wpS _ _ _ _ | show putD _ _ _ _ | show putW _ _ _ _ | show splitG _ _ _ | show wpQ _ _ _ _ _ _ | show wpD _ _ _ _ _ _ _ | show wpX _ _ _ _ _ _ | show expX _ _ _ _ _ _ | show stepX _ _ _ _); conv => whnf) | ((with_reducible show RetN _ _ _); refine retB fun β => ?_) | ((with_reducible show _ ∧ _); first | (apply And.intro; (· intro h; exfalso; first | omega | (revert h; decide)); intro _) | (apply And.intro; rotate_left; (· intro h; exfalso; first | omega | (revert h; decide)); intro _) | (refine ⟨fun _ => ?_, fun _ => ?_⟩) | (apply And.intro; · kernel_rfl) | (apply And.intro; · (show inK _ _; unfold inK; omega)) | (apply And.intro; · (show (_ : Int) ≤ 9223372036854775807; simp only [List.length_append, List.length_drop, List.length_take, List.length_cons, List.length_nil]; omega))) | ((with_reducible show bothX _ _); refine bothI ?_ ?_; conv => whnf) | (with_reducible exact trivial) | ((with_reducible show CallN _ _ _ _ _ _ _ _); refine call_of env_ok rfl 1000 ?_) | ((with_reducible show XopN _ _ _ _ _ _); refine xop_of env_ok rfl 1000 ?_) | ((with_reducible show CallX _ _ _ _ _ _); first | (refine callX (.str L) (by kernel_rfl) rfl (trivial) (fun β w hm => by simp only [SV.dens, SV.den]; rw [hq]; exact HI w) ?_)) | ((with_reducible show OpX _ _ _ _); first | (refine opx_one rfl rfl Tryd.underlying56 (fun w => Tryd.sizeOf5 w) (fun w => Tryd.zeroValue5 w) rfl (fun g => ?_))) | ((with_reducible show ∃ _ : SV, _); first | (refine ⟨_, ?ok, x_bytesStr 0 [UInt8.ofNat (48 + n % 10)] Tryd.underlying56 Tryd.underlying5 Tryd.underlying9 rfl (by rw [hr]; exact hm), ?_⟩; (case ok => exact fun _ _ => trivial)) | (refine ⟨_, ?ok, x_quo (by omega) (by omega) (by unfold inK; omega), ?_⟩; (case ok => exact fun _ _ => trivial)) | (refine ⟨_, ?ok, x_rem (by omega) (by omega), ?_⟩; (case ok => exact fun _ _ => trivial))) | ((with_reducible show ∃ _, _); first | fail))
    all_goals rfl
end Go.Proofs.YtgphgimbnflhfaaDoor
