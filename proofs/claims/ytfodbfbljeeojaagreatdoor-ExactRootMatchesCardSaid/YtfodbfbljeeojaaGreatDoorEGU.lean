/- Whole numbers as texts and fractions: the reference's Decimal, unsigned, Whole; the program's Of, Ratio. Whole numbers as fractions: the reference's unsigned, Whole; the program's Of, Ratio. Powers of the reference; mod. -/
import Derived.Test.YtfodbfbljeeojaaGreatDoorEGS
set_option linter.unusedSimpArgs false
set_option linter.unusedVariables false
namespace Go.Proofs.YtfodbfbljeeojaaGreatDoor
open Go.RowKit
open Sym
attribute [local irreducible] Calls Sym.AggEq ExP.nd ExP.dig ExP.upd
theorem Sym.x_remT {C : Ctx} {G : Blobs} {x y : Operand} {t u : TypeId} {k : IntKind} {a b r : Int} (hb : b ≠ 0) (hr : Int.tmod a b = r) : ExtN C G (.binOp .rem t x y u) [.int k a, .int k b] (.int k r) := by
  unfold ExtN
  intro ρ β w dst ty pos after g _ _ h
  have h' : ρ x = .int k a ∧ ρ y = .int k b := by simpa [opsX, SV.dens, SV.den] using h
  simp [execOp, eqGuard, binOp, Op.intDiv, h'.1, h'.2, hb, SV.den, hr]
theorem Sym.x_quoT {C : Ctx} {G : Blobs} {x y : Operand} {t u : TypeId} {k : IntKind} {a b q : Int} (hb : b ≠ 0) (hq : Int.tdiv a b = q) (hk : inK k q) : ExtN C G (.binOp .quo t x y u) [.int k a, .int k b] (.int k q) := by
  unfold ExtN
  intro ρ β w dst ty pos after g _ _ h
  have h' : ρ x = .int k a ∧ ρ y = .int k b := by simpa [opsX, SV.dens, SV.den] using h
  have hw : k.wrap q = q := inK_wrap hk
  simp [execOp, eqGuard, binOp, Op.intDiv, h'.1, h'.2, hb, SV.den, hq, hw]
theorem digit_byte (k : Nat) (h : k < 10) {v : Int} (hv : v = 48 + (k : Int)) : [Value.int .u8 v] = bvals [UInt8.ofNat (48 + k)] := by
  have : (UInt8.ofNat (48 + k)).toNat = 48 + k := by simp; omega
  subst hv
  simp [bvals, this]
  omega
theorem dec_le (x : Nat) (h : x < 100000000000000000000) : (Lib.decDigits x).length ≤ 20 := by
  rcases Nat.eq_zero_or_pos x with rfl | h0
  · rw [Lib.decDigits_one (by omega)]; simp
  · rw [ExP.nd_dec h0]; exact ExP.nd_le (by omega) (by simpa using h)
theorem tdiv_neg10 (m : Nat) : Int.tdiv (-(m : Int)) 10 = -((m / 10 : Nat) : Int) := by rw [Int.neg_tdiv]; simp [Int.tdiv_eq_ediv_of_nonneg]
theorem tmod_neg10 (m : Nat) : Int.tmod (-(m : Int)) 10 = -((m % 10 : Nat) : Int) := by rw [Int.neg_tmod]; simp [Int.tmod_eq_emod_of_nonneg]
set_option maxRecDepth 100000 in
set_option maxHeartbeats 2000000 in
theorem decimal_pos (n : Nat) : n < 9223372036854775808 → ∀ w, Calls Tryz.prog 71 #[.int .i64 (n : Int)] w fun e w' => e = .returned (.string (bstr (Lib.decDigits n))) ∧ Below w.heap.size w w' := by
  induction n using Nat.strongRecOn with
  | _ n ih =>
  intro hn w
  by_cases h : n < 10
  · rw [Lib.decDigits_one h]
    refine enter env_ok Tryz.func71 rfl Tryz.results71 Tryz.ntmps71 [] [] [.int .i64 (n : Int)] (by simp [SV.oks, SV.ok]) (Nat.le_of_ble_eq_true rfl) w _ 1000 ?_
    repeat' (first | ((with_reducible first | show wpS _ _ _ _ | show putD _ _ _ _ | show putW _ _ _ _ | show splitG _ _ _ | show wpQ _ _ _ _ _ _ | show wpD _ _ _ _ _ _ _ | show wpX _ _ _ _ _ _ _ | show expX _ _ _ _ _ _ | show stepX _ _ _ _ | show keepR _ _ _ | show wpY _ _ _ _); conv => whnf) | ((with_reducible show RetN _ _ _); refine retB fun β => ?_) | ((with_reducible show _ ∧ _); first | (apply And.intro; (· intro h; exfalso; first | omega | (revert h; decide)); intro _) | (apply And.intro; rotate_left; (· intro h; exfalso; first | omega | (revert h; decide)); intro _) | (refine ⟨fun _ => ?_, fun _ => ?_⟩) | (apply And.intro; · kernel_rfl) | (apply And.intro; · (show inK _ _; unfold inK; omega)) | (apply And.intro; · (show (_ : Int) ≤ 9223372036854775807; (try simp only [List.length_append, List.length_drop, List.length_take, List.length_cons, List.length_nil]); omega))) | ((with_reducible show AllBe _); refine allBe fun βe => ?_; conv => whnf) | ((with_reducible show bothX _ _); refine bothI ?_ ?_; conv => whnf) | (with_reducible exact trivial) | ((with_reducible show CallN _ _ _ _ _ _ _ _); refine call_of env_ok rfl 1000 ?_) | ((with_reducible show XopN _ _ _ _ _ _); refine xop_of env_ok rfl 1000 ?_) | ((with_reducible show CallX _ _ _ _ _ _); first | fail) | ((with_reducible show OpX _ _ _ _); first | (refine opx_one rfl rfl Tryz.underlying110 (fun w => Tryz.sizeOf5 w) (fun w => Tryz.zeroValue5 w) rfl (fun g => ?_))) | ((with_reducible show ∃ _ : SV, _); first | (refine ⟨_, ?ok, x_bytesStr 0 [UInt8.ofNat (48 + n)] Tryz.underlying110 Tryz.underlying5 Tryz.underlying9 rfl (digit_byte n h rfl), ?_⟩; (case ok => exact fun _ _ => trivial))) | ((with_reducible show ∃ _, _); first | fail))
    all_goals first | rfl | (exfalso; omega)
  · have hD : Lib.decDigits n = Lib.decDigits (n / 10) ++ [UInt8.ofNat (48 + n % 10)] := by rw [Lib.decDigits, dif_neg h]
    have HI := ih (n / 10) (by omega) (by omega)
    have hL := dec_le (n / 10) (by omega)
    have hq : (n : Int) / 10 = ((n / 10 : Nat) : Int) := by omega
    have hr : (n : Int) % 10 = ((n % 10 : Nat) : Int) := by omega
    have hm := fun v => digit_byte (n % 10) (by omega) (v := v)
    rw [hD]
    clear ih hD
    generalize Lib.decDigits (n / 10) = L at *
    refine enter env_ok Tryz.func71 rfl Tryz.results71 Tryz.ntmps71 [] [] [.int .i64 (n : Int)] (by simp [SV.oks, SV.ok]) (Nat.le_of_ble_eq_true rfl) w _ 1000 ?_
    repeat' (first | ((with_reducible first | show wpS _ _ _ _ | show putD _ _ _ _ | show putW _ _ _ _ | show splitG _ _ _ | show wpQ _ _ _ _ _ _ | show wpD _ _ _ _ _ _ _ | show wpX _ _ _ _ _ _ _ | show expX _ _ _ _ _ _ | show stepX _ _ _ _ | show keepR _ _ _ | show wpY _ _ _ _); conv => whnf) | ((with_reducible show RetN _ _ _); refine retB fun β => ?_) | ((with_reducible show _ ∧ _); first | (apply And.intro; (· intro h; exfalso; first | omega | (revert h; decide)); intro _) | (apply And.intro; rotate_left; (· intro h; exfalso; first | omega | (revert h; decide)); intro _) | (refine ⟨fun _ => ?_, fun _ => ?_⟩) | (apply And.intro; · kernel_rfl) | (apply And.intro; · (show inK _ _; unfold inK; omega)) | (apply And.intro; · (show (_ : Int) ≤ 9223372036854775807; (try simp only [List.length_append, List.length_drop, List.length_take, List.length_cons, List.length_nil]); omega))) | ((with_reducible show AllBe _); refine allBe fun βe => ?_; conv => whnf) | ((with_reducible show bothX _ _); refine bothI ?_ ?_; conv => whnf) | (with_reducible exact trivial) | ((with_reducible show CallN _ _ _ _ _ _ _ _); refine call_of env_ok rfl 1000 ?_) | ((with_reducible show XopN _ _ _ _ _ _); refine xop_of env_ok rfl 1000 ?_) | ((with_reducible show CallX _ _ _ _ _ _); first | (refine callX (.str L) (by kernel_rfl) rfl (trivial) (fun β w hm => by simp only [SV.dens, SV.den]; rw [hq]; exact HI w) ?_)) | ((with_reducible show OpX _ _ _ _); first | (refine opx_one rfl rfl Tryz.underlying110 (fun w => Tryz.sizeOf5 w) (fun w => Tryz.zeroValue5 w) rfl (fun g => ?_))) | ((with_reducible show ∃ _ : SV, _); first | (refine ⟨_, ?ok, x_bytesStr 0 [UInt8.ofNat (48 + n % 10)] Tryz.underlying110 Tryz.underlying5 Tryz.underlying9 rfl (hm _ (by rw [hr])), ?_⟩; (case ok => exact fun _ _ => trivial)) | (refine ⟨_, ?ok, x_quo (by omega) (by omega) (by unfold inK; omega), ?_⟩; (case ok => exact fun _ _ => trivial)) | (refine ⟨_, ?ok, x_rem (by omega) (by omega), ?_⟩; (case ok => exact fun _ _ => trivial))) | ((with_reducible show ∃ _, _); first | fail))
    all_goals rfl
set_option maxRecDepth 100000 in
set_option maxHeartbeats 2000000 in
theorem decimal_neg (n : Nat) : 0 < n → n ≤ 9223372036854775808 → ∀ w, Calls Tryz.prog 71 #[.int .i64 (-(n : Int))] w fun e w' => e = .returned (.string (bstr (45 :: Lib.decDigits n))) ∧ Below w.heap.size w w' := by
  induction n using Nat.strongRecOn with
  | _ n ih =>
  intro hn0 hn w
  by_cases h : n < 10
  · rw [Lib.decDigits_one h]
    refine enter env_ok Tryz.func71 rfl Tryz.results71 Tryz.ntmps71 [] [] [.int .i64 (-(n : Int))] (by simp [SV.oks, SV.ok]) (Nat.le_of_ble_eq_true rfl) w _ 1000 ?_
    repeat' (first | ((with_reducible first | show wpS _ _ _ _ | show putD _ _ _ _ | show putW _ _ _ _ | show splitG _ _ _ | show wpQ _ _ _ _ _ _ | show wpD _ _ _ _ _ _ _ | show wpX _ _ _ _ _ _ _ | show expX _ _ _ _ _ _ | show stepX _ _ _ _ | show keepR _ _ _ | show wpY _ _ _ _); conv => whnf) | ((with_reducible show RetN _ _ _); refine retB fun β => ?_) | ((with_reducible show _ ∧ _); first | (apply And.intro; (· intro h; exfalso; first | omega | (revert h; decide)); intro _) | (apply And.intro; rotate_left; (· intro h; exfalso; first | omega | (revert h; decide)); intro _) | (refine ⟨fun _ => ?_, fun _ => ?_⟩) | (apply And.intro; · kernel_rfl) | (apply And.intro; · (show inK _ _; unfold inK; omega)) | (apply And.intro; · (show (_ : Int) ≤ 9223372036854775807; (try simp only [List.length_append, List.length_drop, List.length_take, List.length_cons, List.length_nil]); omega))) | ((with_reducible show AllBe _); refine allBe fun βe => ?_; conv => whnf) | ((with_reducible show bothX _ _); refine bothI ?_ ?_; conv => whnf) | (with_reducible exact trivial) | ((with_reducible show CallN _ _ _ _ _ _ _ _); refine call_of env_ok rfl 1000 ?_) | ((with_reducible show XopN _ _ _ _ _ _); refine xop_of env_ok rfl 1000 ?_) | ((with_reducible show CallX _ _ _ _ _ _); first | fail) | ((with_reducible show OpX _ _ _ _); first | (refine opx_one rfl rfl Tryz.underlying110 (fun w => Tryz.sizeOf5 w) (fun w => Tryz.zeroValue5 w) rfl (fun g => ?_))) | ((with_reducible show ∃ _ : SV, _); first | (refine ⟨_, ?ok, x_bytesStr 0 [UInt8.ofNat (48 + n)] Tryz.underlying110 Tryz.underlying5 Tryz.underlying9 rfl (digit_byte n h (by omega)), ?_⟩; (case ok => exact fun _ _ => trivial))) | ((with_reducible show ∃ _, _); first | fail))
    all_goals first | rfl | (exfalso; omega)
  · have hD : Lib.decDigits n = Lib.decDigits (n / 10) ++ [UInt8.ofNat (48 + n % 10)] := by rw [Lib.decDigits, dif_neg h]
    have HI := ih (n / 10) (by omega) (by omega) (by omega)
    have hL := dec_le (n / 10) (by omega)
    have hq := tdiv_neg10 n
    have hr := tmod_neg10 n
    have hm := fun v => digit_byte (n % 10) (by omega) (v := v)
    rw [hD]
    clear ih hD
    generalize Lib.decDigits (n / 10) = L at *
    refine enter env_ok Tryz.func71 rfl Tryz.results71 Tryz.ntmps71 [] [] [.int .i64 (-(n : Int))] (by simp [SV.oks, SV.ok]) (Nat.le_of_ble_eq_true rfl) w _ 1000 ?_
    repeat' (first | ((with_reducible first | show wpS _ _ _ _ | show putD _ _ _ _ | show putW _ _ _ _ | show splitG _ _ _ | show wpQ _ _ _ _ _ _ | show wpD _ _ _ _ _ _ _ | show wpX _ _ _ _ _ _ _ | show expX _ _ _ _ _ _ | show stepX _ _ _ _ | show keepR _ _ _ | show wpY _ _ _ _); conv => whnf) | ((with_reducible show RetN _ _ _); refine retB fun β => ?_) | ((with_reducible show _ ∧ _); first | (apply And.intro; (· intro h; exfalso; first | omega | (revert h; decide)); intro _) | (apply And.intro; rotate_left; (· intro h; exfalso; first | omega | (revert h; decide)); intro _) | (refine ⟨fun _ => ?_, fun _ => ?_⟩) | (apply And.intro; · kernel_rfl) | (apply And.intro; · (show inK _ _; unfold inK; omega)) | (apply And.intro; · (show (_ : Int) ≤ 9223372036854775807; (try simp only [List.length_append, List.length_drop, List.length_take, List.length_cons, List.length_nil]); omega))) | ((with_reducible show AllBe _); refine allBe fun βe => ?_; conv => whnf) | ((with_reducible show bothX _ _); refine bothI ?_ ?_; conv => whnf) | (with_reducible exact trivial) | ((with_reducible show CallN _ _ _ _ _ _ _ _); refine call_of env_ok rfl 1000 ?_) | ((with_reducible show XopN _ _ _ _ _ _); refine xop_of env_ok rfl 1000 ?_) | ((with_reducible show CallX _ _ _ _ _ _); first | (refine callX (.str (45 :: L)) (by kernel_rfl) rfl (trivial) (fun β w hm => HI w) ?_)) | ((with_reducible show OpX _ _ _ _); first | (refine opx_one rfl rfl Tryz.underlying110 (fun w => Tryz.sizeOf5 w) (fun w => Tryz.zeroValue5 w) rfl (fun g => ?_))) | ((with_reducible show ∃ _ : SV, _); first | (refine ⟨_, ?ok, x_bytesStr 0 [UInt8.ofNat (48 + n % 10)] Tryz.underlying110 Tryz.underlying5 Tryz.underlying9 rfl (hm _ (by omega)), ?_⟩; (case ok => exact fun _ _ => trivial)) | (refine ⟨_, ?ok, x_quoT (by omega) hq (by unfold inK; omega), ?_⟩; (case ok => exact fun _ _ => trivial)) | (refine ⟨_, ?ok, x_remT (by omega) hr, ?_⟩; (case ok => exact fun _ _ => trivial))) | ((with_reducible show ∃ _, _); first | fail))
    all_goals first | rfl | (exfalso; omega)
end Go.Proofs.YtfodbfbljeeojaaGreatDoor
namespace Go.Proofs.YtfodbfbljeeojaaGreatDoor
open Go.RowKit
open Sym
attribute [local irreducible] Calls Sym.AggEq ExP.nd ExP.dig ExP.upd
theorem ExP.nd_one {b : Nat} (hb : 2 ≤ b) : ExP.nd b 1 = 1 := by
  have h1 := ExP.nd_le (b := b) (x := 1) (n := 1) hb (by rw [Nat.pow_one]; omega)
  have h2 := (ExP.nd_pos (b := b) (x := 1) hb).2 (by omega)
  omega
theorem nv_one {k : IntKind} {b : Nat} (hb : 2 ≤ b) : nv k b 1 = [.int k 1] := by
  unfold nv ExP.dg
  rw [ExP.nd_one hb, ExP.dig_self (by omega)]
  rfl
/-- a whole number as a fraction -/
def ExP.wholeN (p : Int) : ExP.Num := ⟨decide (p < 0), p.natAbs, 1⟩
theorem ExP.cut_dec (x : Nat) : ExP.cutM (Lib.decDigits x) = (Lib.decDigits x, false) := by
  have h := ExP.dec_digits x
  generalize Lib.decDigits x = l at *
  unfold ExP.cutM
  cases l with
  | nil => rfl
  | cons c r =>
    have hc : c ≠ 45 := by
      rintro rfl
      simp [ExP.digC] at h
    simp [hc]
theorem ExP.cut_itoa (p : Int) : ExP.cutM (Lib.itoa p) = (Lib.decDigits p.natAbs, decide (p < 0)) := by
  unfold Lib.itoa
  split
  · rename_i h
    rw [decide_eq_true h]
    simp [ExP.cutM]
  · rename_i h
    rw [decide_eq_false h, ExP.cut_dec]
    have : p.toNat = p.natAbs := by omega
    rw [this]
theorem itoa_any (p : Int) (w : World) (h0 : -9223372036854775808 ≤ p) (h1 : p ≤ 9223372036854775807) (hw : XW w) : Calls Tryz.prog 68 #[.int .i64 p] w fun e w' => e = .returned (.string (bstr (Lib.itoa p))) ∧ Below w.heap.size w w' := by
  refine (Tryz.strconv_Itoa p h0 h1 w hw.tab).mono ?_
  rintro e w' ⟨rfl, k, os, rfl⟩
  exact ⟨rfl, xgrown w k os⟩
set_option maxRecDepth 100000 in
theorem unsigned_any (n : Nat) (h0 : 0 < n) (hn : n ≤ 9223372036854775808) (w : World) : Calls Tryz.prog 70 #[.int .i64 (-(n : Int))] w fun e w' => e = .returned (.string (bstr (Lib.decDigits n))) ∧ Below w.heap.size w w' := by
  have HD := fun w => decimal_neg n h0 hn w
  generalize Lib.decDigits n = L at *
  refine enter env_ok Tryz.func70 rfl Tryz.results70 Tryz.ntmps70 [] [] [.int .i64 (-(n : Int))] (by simp [SV.oks, SV.ok]) (Nat.le_of_ble_eq_true rfl) w _ 1000 ?_
  repeat' (first | ((with_reducible first | show wpS _ _ _ _ | show putD _ _ _ _ | show putW _ _ _ _ | show splitG _ _ _ | show wpQ _ _ _ _ _ _ | show wpD _ _ _ _ _ _ _ | show wpX _ _ _ _ _ _ _ | show expX _ _ _ _ _ _ | show stepX _ _ _ _ | show keepR _ _ _ | show wpY _ _ _ _); conv => whnf) | ((with_reducible show RetN _ _ _); refine retB fun β => ?_) | ((with_reducible show _ ∧ _); first | (apply And.intro; (· intro h; exfalso; first | omega | (revert h; decide)); intro _) | (apply And.intro; rotate_left; (· intro h; exfalso; first | omega | (revert h; decide)); intro _) | (refine ⟨fun _ => ?_, fun _ => ?_⟩) | (apply And.intro; · kernel_rfl) | (apply And.intro; · (show inK _ _; unfold inK; omega)) | (apply And.intro; · (show (_ : Int) ≤ 9223372036854775807; (try simp only [List.length_append, List.length_drop, List.length_take, List.length_cons, List.length_nil]); omega))) | ((with_reducible show AllBe _); refine allBe fun βe => ?_; conv => whnf) | ((with_reducible show bothX _ _); refine bothI ?_ ?_; conv => whnf) | (with_reducible exact trivial) | ((with_reducible show CallN _ _ _ _ _ _ _ _); refine call_of env_ok rfl 1000 ?_) | ((with_reducible show XopN _ _ _ _ _ _); refine xop_of env_ok rfl 1000 ?_) | ((with_reducible show CallX _ _ _ _ _ _); first | (refine callX (.str (45 :: L)) (by kernel_rfl) rfl (trivial) (fun β w hm => HD w) ?_)) | ((with_reducible show OpX _ _ _ _); first | fail) | ((with_reducible show ∃ _ : SV, _); first | fail) | ((with_reducible show ∃ _, _); first | (refine ⟨1, rfl, by simp, ?_⟩)))
  all_goals rfl
set_option maxRecDepth 100000 in
set_option maxHeartbeats 2000000 in
theorem whole_any (p : Int) (w : World) (hw0 : 0 < w.heap.size) (h0 : -9223372036854775808 ≤ p) (h1 : p ≤ 9223372036854775807) : Calls Tryz.prog 27 #[.int .i64 p] w (FrOut .i64 10 (ExP.wholeN p) w) := by
  obtain ⟨i0, hi, hz0, hz1, hz2⟩ := info_parts intInfo
  have hu := Tryz.underlying34
  have hsz := fun w => Tryz.sizeOf3 w
  have hzv := fun w => Tryz.zeroValue3 w
  have hn1 : ExP.nd 10 1 = 1 := ExP.nd_one (by omega)
  have hv1 : nv .i64 10 1 = [.int .i64 1] := nv_one (by omega)
  have hN := fun x w => natOf_any (Lib.decDigits x) w
  simp only [ExP.val_dec] at hN
  by_cases hp : p < 0
  · obtain ⟨m, rfl⟩ : ∃ m : Nat, p = -(m : Int) := ⟨p.natAbs, by omega⟩
    have hW : ExP.wholeN (-(m : Int)) = ⟨true, m, 1⟩ := by simp [ExP.wholeN]; omega
    rw [hW]
    have HU := fun w => unsigned_any m (by omega) (by omega) w
    have hN := fun w => hN m w (by have := dec_le m (by omega); omega) (ExP.dec_digits m)
    generalize Lib.decDigits m = L at *
    refine enter env_ok Tryz.func27 rfl Tryz.results27 Tryz.ntmps27 [] [] [.int .i64 (-(m : Int))] (by simp [SV.oks, SV.ok]) (Nat.le_of_ble_eq_true rfl) w _ 1000 ?_
    repeat' (first | ((with_reducible first | show wpS _ _ _ _ | show putD _ _ _ _ | show putW _ _ _ _ | show splitG _ _ _ | show wpQ _ _ _ _ _ _ | show wpD _ _ _ _ _ _ _ | show wpX _ _ _ _ _ _ _ | show expX _ _ _ _ _ _ | show stepX _ _ _ _ | show keepR _ _ _ | show wpY _ _ _ _); conv => whnf) | ((with_reducible show RetN _ _ _); refine retB fun β => ?_) | ((with_reducible show _ ∧ _); first | (apply And.intro; (· intro h; exfalso; first | omega | (revert h; decide)); intro _) | (apply And.intro; rotate_left; (· intro h; exfalso; first | omega | (revert h; decide)); intro _) | (refine ⟨fun _ => ?_, fun _ => ?_⟩) | (apply And.intro; · kernel_rfl) | (apply And.intro; · (show inK _ _; unfold inK; omega)) | (apply And.intro; · (show (_ : Int) ≤ 9223372036854775807; (try simp only [List.length_append, List.length_drop, List.length_take, List.length_cons, List.length_nil]); omega))) | ((with_reducible show AllBe _); refine allBe fun βe => ?_; conv => whnf) | ((with_reducible show bothX _ _); refine bothI ?_ ?_; conv => whnf) | (with_reducible exact trivial) | ((with_reducible show CallN _ _ _ _ _ _ _ _); refine call_of env_ok rfl 1000 ?_) | ((with_reducible show XopN _ _ _ _ _ _); refine xop_of env_ok rfl 1000 ?_) | ((with_reducible show CallX _ _ _ _ _ _); first | (refine callX (.str L) (by kernel_rfl) rfl (trivial) (fun β w hm => HU w) ?_) | (refine callNat .i64 10 m hw0 (by kernel_rfl) rfl (fun β w' hm => hN w') (fun a1 c1 q1 q2 q3 => ?_))) | ((with_reducible show OpX _ _ _ _); first | (refine opx_build1 (sz := 1) rfl rfl rfl (xs := [.int .i64 1]) (fun β => rfl) rfl (by omega) (by omega) hu hsz hzv (fun g1 => ?_))) | ((with_reducible show ∃ _ : SV, _); first | fail) | ((with_reducible show ∃ _, _); first | fail))
    all_goals first | (exfalso; omega) | skip
    all_goals refine ret fun β w' hm => ?_
    all_goals refine ⟨⟨true, m, 1, a1, c1, some ⟨g1, 0, none⟩, 1⟩, by simp only [FrV.val, hn1]; rfl, rfl, ⟨q1, (by intro h; cases h), q2, by dsimp only; omega⟩, Ls2 (by first | exact hm.slF 1 rfl | exact hm.slF 2 rfl | exact hm.slF 3 rfl | exact hm.slF 4 rfl) (by first | exact hm.freshF 1 rfl rfl | exact hm.freshF 2 rfl rfl | exact hm.freshF 3 rfl rfl | exact hm.freshF 4 rfl rfl) (by dsimp only; rw [hv1]; first | exact (hm.own 1 rfl).1 | exact (hm.own 2 rfl).1) (by dsimp only; rw [hv1]; first | exact fresh_own (hm.own 1 rfl).2.1 rfl | exact fresh_own (hm.own 2 rfl).2.1 rfl), hm.below⟩
  · obtain ⟨m, rfl⟩ : ∃ m : Nat, p = (m : Int) := ⟨p.natAbs, by omega⟩
    have hW : ExP.wholeN (m : Int) = ⟨false, m, 1⟩ := by simp [ExP.wholeN]
    rw [hW]
    have HU := fun w => decimal_pos m (by omega) w
    have hN := fun w => hN m w (by have := dec_le m (by omega); omega) (ExP.dec_digits m)
    generalize Lib.decDigits m = L at *
    refine enter env_ok Tryz.func27 rfl Tryz.results27 Tryz.ntmps27 [] [] [.int .i64 (m : Int)] (by simp [SV.oks, SV.ok]) (Nat.le_of_ble_eq_true rfl) w _ 1000 ?_
    repeat' (first | ((with_reducible first | show wpS _ _ _ _ | show putD _ _ _ _ | show putW _ _ _ _ | show splitG _ _ _ | show wpQ _ _ _ _ _ _ | show wpD _ _ _ _ _ _ _ | show wpX _ _ _ _ _ _ _ | show expX _ _ _ _ _ _ | show stepX _ _ _ _ | show keepR _ _ _ | show wpY _ _ _ _); conv => whnf) | ((with_reducible show RetN _ _ _); refine retB fun β => ?_) | ((with_reducible show _ ∧ _); first | (apply And.intro; (· intro h; exfalso; first | omega | (revert h; decide)); intro _) | (apply And.intro; rotate_left; (· intro h; exfalso; first | omega | (revert h; decide)); intro _) | (refine ⟨fun _ => ?_, fun _ => ?_⟩) | (apply And.intro; · kernel_rfl) | (apply And.intro; · (show inK _ _; unfold inK; omega)) | (apply And.intro; · (show (_ : Int) ≤ 9223372036854775807; (try simp only [List.length_append, List.length_drop, List.length_take, List.length_cons, List.length_nil]); omega))) | ((with_reducible show AllBe _); refine allBe fun βe => ?_; conv => whnf) | ((with_reducible show bothX _ _); refine bothI ?_ ?_; conv => whnf) | (with_reducible exact trivial) | ((with_reducible show CallN _ _ _ _ _ _ _ _); refine call_of env_ok rfl 1000 ?_) | ((with_reducible show XopN _ _ _ _ _ _); refine xop_of env_ok rfl 1000 ?_) | ((with_reducible show CallX _ _ _ _ _ _); first | (refine callX (.str L) (by kernel_rfl) rfl (trivial) (fun β w hm => HU w) ?_) | (refine callNat .i64 10 m hw0 (by kernel_rfl) rfl (fun β w' hm => hN w') (fun a1 c1 q1 q2 q3 => ?_))) | ((with_reducible show OpX _ _ _ _); first | (refine opx_build1 (sz := 1) rfl rfl rfl (xs := [.int .i64 1]) (fun β => rfl) rfl (by omega) (by omega) hu hsz hzv (fun g1 => ?_))) | ((with_reducible show ∃ _ : SV, _); first | fail) | ((with_reducible show ∃ _, _); first | fail))
    all_goals first | (exfalso; omega) | skip
    all_goals refine ret fun β w' hm => ?_
    all_goals refine ⟨⟨false, m, 1, a1, c1, some ⟨g1, 0, none⟩, 1⟩, by simp only [FrV.val, hn1]; rfl, rfl, ⟨q1, (by intro h; cases h), q2, by dsimp only; omega⟩, Ls2 (by first | exact hm.slF 1 rfl | exact hm.slF 2 rfl | exact hm.slF 3 rfl | exact hm.slF 4 rfl) (by first | exact hm.freshF 1 rfl rfl | exact hm.freshF 2 rfl rfl | exact hm.freshF 3 rfl rfl | exact hm.freshF 4 rfl rfl) (by dsimp only; rw [hv1]; first | exact (hm.own 1 rfl).1 | exact (hm.own 2 rfl).1) (by dsimp only; rw [hv1]; first | exact fresh_own (hm.own 1 rfl).2.1 rfl | exact fresh_own (hm.own 2 rfl).2.1 rfl), hm.below⟩
set_option maxRecDepth 100000 in
theorem of_any (p : Int) (w : World) (hw : XW w) (h0 : -9223372036854775808 ≤ p) (h1 : p ≤ 9223372036854775807) : Calls Tryz.prog 28 #[.int .i64 p] w fun e w' => e = .returned (frV (Lib.itoa p, [49])) ∧ Below w.heap.size w w' := by
  have HI := fun (w' : World) (h : Below w.heap.size w w') => itoa_any p w' h0 h1 (hw.below h)
  generalize Lib.itoa p = L at *
  refine enter env_ok Tryz.func28 rfl Tryz.results28 Tryz.ntmps28 [] [] [.int .i64 p] (by simp [SV.oks, SV.ok]) (Nat.le_of_ble_eq_true rfl) w _ 1000 ?_
  repeat' (first | ((with_reducible first | show wpS _ _ _ _ | show putD _ _ _ _ | show putW _ _ _ _ | show splitG _ _ _ | show wpQ _ _ _ _ _ _ | show wpD _ _ _ _ _ _ _ | show wpX _ _ _ _ _ _ _ | show expX _ _ _ _ _ _ | show stepX _ _ _ _ | show keepR _ _ _ | show wpY _ _ _ _); conv => whnf) | ((with_reducible show RetN _ _ _); refine retB fun β => ?_) | ((with_reducible show _ ∧ _); first | (apply And.intro; (· intro h; exfalso; first | omega | (revert h; decide)); intro _) | (apply And.intro; rotate_left; (· intro h; exfalso; first | omega | (revert h; decide)); intro _) | (refine ⟨fun _ => ?_, fun _ => ?_⟩) | (apply And.intro; · kernel_rfl) | (apply And.intro; · (show inK _ _; unfold inK; omega)) | (apply And.intro; · (show (_ : Int) ≤ 9223372036854775807; (try simp only [List.length_append, List.length_drop, List.length_take, List.length_cons, List.length_nil]); omega))) | ((with_reducible show AllBe _); refine allBe fun βe => ?_; conv => whnf) | ((with_reducible show bothX _ _); refine bothI ?_ ?_; conv => whnf) | (with_reducible exact trivial) | ((with_reducible show CallN _ _ _ _ _ _ _ _); refine call_of env_ok rfl 1000 ?_) | ((with_reducible show XopN _ _ _ _ _ _); refine xop_of env_ok rfl 1000 ?_) | ((with_reducible show CallX _ _ _ _ _ _); first | (refine callX (.str L) (by kernel_rfl) rfl (trivial) (fun β w hm => HI w hm.below) ?_)) | ((with_reducible show OpX _ _ _ _); first | fail) | ((with_reducible show ∃ _ : SV, _); first | fail) | ((with_reducible show ∃ _, _); first | fail))
  all_goals rfl
/-- what Ratio is made of -/
def ExP.ratioN (p q : Int) : ExP.Num := ⟨decide (p < 0) != decide (q < 0), p.natAbs, q.natAbs⟩
set_option maxRecDepth 100000 in
set_option maxHeartbeats 2000000 in
theorem ratio_any (p q : Int) (w : World) (hw : XW w) (hw0 : 0 < w.heap.size) (h0 : -9223372036854775808 ≤ p) (h1 : p ≤ 9223372036854775807) (h2 : -9223372036854775808 ≤ q) (h3 : q ≤ 9223372036854775807) :
    Calls Tryz.prog 26 #[.int .i64 p, .int .i64 q] w (WrOut (if q = 0 then ([], []) else ExP.writeF (ExP.ratioN p q)) (if q = 0 then 1 else ExP.writeE (ExP.ratioN p q)) w) := by
  by_cases hq : q = 0
  · rw [if_pos hq, if_pos hq]
    refine enter env_ok Tryz.func26 rfl Tryz.results26 Tryz.ntmps26 [] [] [.int .i64 p, .int .i64 q] (by simp [SV.oks, SV.ok]) (Nat.le_of_ble_eq_true rfl) w _ 1000 ?_
    repeat' (first | ((with_reducible first | show wpS _ _ _ _ | show putD _ _ _ _ | show putW _ _ _ _ | show splitG _ _ _ | show wpQ _ _ _ _ _ _ | show wpD _ _ _ _ _ _ _ | show wpX _ _ _ _ _ _ _ | show expX _ _ _ _ _ _ | show stepX _ _ _ _ | show keepR _ _ _ | show wpY _ _ _ _); conv => whnf) | ((with_reducible show RetN _ _ _); refine retB fun β => ?_) | ((with_reducible show _ ∧ _); first | (apply And.intro; (· intro h; exfalso; first | omega | (revert h; decide)); intro _) | (apply And.intro; rotate_left; (· intro h; exfalso; first | omega | (revert h; decide)); intro _) | (refine ⟨fun _ => ?_, fun _ => ?_⟩) | (apply And.intro; · kernel_rfl) | (apply And.intro; · (show inK _ _; unfold inK; omega)) | (apply And.intro; · (show (_ : Int) ≤ 9223372036854775807; (try simp only [List.length_append, List.length_drop, List.length_take, List.length_cons, List.length_nil]); omega))) | ((with_reducible show AllBe _); refine allBe fun βe => ?_; conv => whnf) | ((with_reducible show bothX _ _); refine bothI ?_ ?_; conv => whnf) | (with_reducible exact trivial) | ((with_reducible show CallN _ _ _ _ _ _ _ _); refine call_of env_ok rfl 1000 ?_) | ((with_reducible show XopN _ _ _ _ _ _); refine xop_of env_ok rfl 1000 ?_) | ((with_reducible show CallX _ _ _ _ _ _); first | fail) | ((with_reducible show OpX _ _ _ _); first | fail) | ((with_reducible show ∃ _ : SV, _); first | fail) | ((with_reducible show ∃ _, _); first | fail))
    all_goals first | rfl | (exfalso; omega)
  · rw [if_neg hq, if_neg hq]
    have HI1 := fun (w' : World) (h : Below w.heap.size w w') => itoa_any p w' h0 h1 (hw.below h)
    have HI2 := fun (w' : World) (h : Below w.heap.size w w') => itoa_any q w' h2 h3 (hw.below h)
    have HC1 := fun w => cutM_any (Lib.itoa p) w
    have HC2 := fun w => cutM_any (Lib.itoa q) w
    rw [ExP.cut_itoa] at HC1 HC2
    have HP := fun x w => parse_any (Lib.decDigits x) w
    simp only [ExP.val_dec] at HP
    have HP1 := fun w => HP p.natAbs w (by have := dec_le p.natAbs (by omega); omega) (ExP.dec_digits _)
    have HP2 := fun w => HP q.natAbs w (by have := dec_le q.natAbs (by omega); omega) (ExP.dec_digits _)
    have HW := fun (x : FrV) (w' : World) (h : Below w.heap.size w w') => write_any x w' (hw.below h) (Nat.lt_of_lt_of_le hw0 h.size)
    have b1 : ExP.nd 1000000000 p.natAbs ≤ 20 := ExP.nd_le (by omega) (by simp; omega)
    have b2 : ExP.nd 1000000000 q.natAbs ≤ 20 := ExP.nd_le (by omega) (by simp; omega)
    have b3 : 0 < q.natAbs := by omega
    unfold ExP.ratioN
    clear HP
    generalize Lib.itoa p = s1 at *
    generalize Lib.itoa q = s2 at *
    generalize decide (p < 0) = m1 at *
    generalize decide (q < 0) = m2 at *
    generalize Lib.decDigits p.natAbs = t1 at *
    generalize Lib.decDigits q.natAbs = t2 at *
    generalize p.natAbs = x at *
    generalize q.natAbs = y at *
    refine enter env_ok Tryz.func26 rfl Tryz.results26 Tryz.ntmps26 [] [200005] [.int .i64 p, .int .i64 q] (by simp [SV.oks, SV.ok]) (Nat.le_of_ble_eq_true rfl) w _ 1000 ?_
    repeat' (first | ((with_reducible first | show wpS _ _ _ _ | show putD _ _ _ _ | show putW _ _ _ _ | show splitG _ _ _ | show wpQ _ _ _ _ _ _ | show wpD _ _ _ _ _ _ _ | show wpX _ _ _ _ _ _ _ | show expX _ _ _ _ _ _ | show stepX _ _ _ _ | show keepR _ _ _ | show wpY _ _ _ _); conv => whnf) | ((with_reducible show RetN _ _ _); refine retB fun β => ?_) | ((with_reducible show _ ∧ _); first | (apply And.intro; (· intro h; exfalso; first | omega | (revert h; decide)); intro _) | (apply And.intro; rotate_left; (· intro h; exfalso; first | omega | (revert h; decide)); intro _) | (refine ⟨fun _ => ?_, fun _ => ?_⟩) | (apply And.intro; · kernel_rfl) | (apply And.intro; · (show inK _ _; unfold inK; omega)) | (apply And.intro; · (show (_ : Int) ≤ 9223372036854775807; (try simp only [List.length_append, List.length_drop, List.length_take, List.length_cons, List.length_nil]); omega))) | ((with_reducible show AllBe _); refine allBe fun βe => ?_; conv => whnf) | ((with_reducible show bothX _ _); refine bothI ?_ ?_; conv => whnf) | (with_reducible exact trivial) | ((with_reducible show CallN _ _ _ _ _ _ _ _); refine call_of env_ok rfl 1000 ?_) | ((with_reducible show XopN _ _ _ _ _ _); refine xop_of env_ok rfl 1000 ?_) | ((with_reducible show CallX _ _ _ _ _ _); first | (refine callX (.str s1) (by kernel_rfl) rfl (trivial) (fun β w hm => HI1 w hm.below) ?_) | (refine callX (.str s2) (by kernel_rfl) rfl (trivial) (fun β w hm => HI2 w hm.below) ?_) | (refine callX (.tup [.str t1, .bool m1]) (by kernel_rfl) rfl (⟨trivial, trivial, trivial⟩) (fun β w hm => HC1 w) ?_) | (refine callX (.tup [.str t2, .bool m2]) (by kernel_rfl) rfl (⟨trivial, trivial, trivial⟩) (fun β w hm => HC2 w) ?_) | (refine callNat .u32 1000000000 x hw0 (by kernel_rfl) rfl (fun β w' hm => HP1 w') (fun a1 c1 q1 q2 q3 => ?_)) | (refine callNat .u32 1000000000 y hw0 (by kernel_rfl) rfl (fun β w' hm => HP2 w') (fun a2 c2 q4 q5 q6 => ?_)) | (refine callX (.tup [.agg [.str (ExP.writeF ⟨m1 != m2, x, y⟩).1, .str (ExP.writeF ⟨m1 != m2, x, y⟩).2], .int .i64 (ExP.writeE ⟨m1 != m2, x, y⟩)]) (by kernel_rfl) rfl (⟨⟨trivial, trivial, trivial⟩, trivial, trivial⟩) (fun β w hm => HW ⟨m1 != m2, x, y, a1, c1, a2, c2⟩ w hm.below (FrIn.of (by first | exact hm.slF 1 rfl | exact hm.slF 2 rfl | exact hm.slF 3 rfl | exact hm.slF 4 rfl | exact hm.slF 5 rfl | exact hm.slB 3 rfl | exact hm.slB 4 rfl | exact hm.slB 5 rfl | exact hm.slB 6 rfl) (by first | exact hm.slF 1 rfl | exact hm.slF 2 rfl | exact hm.slF 3 rfl | exact hm.slF 4 rfl | exact hm.slF 5 rfl | exact hm.slB 3 rfl | exact hm.slB 4 rfl | exact hm.slB 5 rfl | exact hm.slB 6 rfl) ⟨q1, q4, q2, q5⟩) b3 (by dsimp only; omega) (by dsimp only; omega)) ?_)) | ((with_reducible show OpX _ _ _ _); first | fail) | ((with_reducible show ∃ _ : SV, _); first | (refine ⟨_, ?ok, x_neBB m1 m2 (fun _ => rfl) (fun _ => rfl) Tryz.underlying4, ?_⟩; (case ok => exact fun _ _ => trivial))) | ((with_reducible show ∃ _, _); first | fail))
    all_goals first | rfl | (exfalso; omega)
end Go.Proofs.YtfodbfbljeeojaaGreatDoor
namespace Go.Proofs.YtfodbfbljeeojaaGreatDoor
open Go.RowKit
open Sym
attribute [local irreducible] Calls Sym.AggEq ExP.nd ExP.dig ExP.upd
/-- a power -/
def ExP.powN (x : ExP.Num) (k : Nat) : ExP.Num := ⟨x.m && decide (k % 2 = 1), x.n ^ k, x.d ^ k⟩
theorem ExP.pow_zero (x : ExP.Num) : ExP.powN x 0 = ExP.wholeN 1 := by simp [ExP.powN, ExP.wholeN]
theorem ExP.pow_step (x : ExP.Num) (k : Nat) : ExP.mulN (ExP.powN x k) x = ExP.powN x (k + 1) := by
  obtain ⟨m, n, d⟩ := x
  simp only [ExP.powN, ExP.mulN, Nat.pow_succ, Num.mk.injEq, and_true]
  rcases Nat.mod_two_eq_zero_or_one k with h | h
  · have : (k + 1) % 2 = 1 := by omega
    cases m <;> simp [h, this]
  · have : (k + 1) % 2 = 0 := by omega
    cases m <;> simp [h, this]
theorem ExP.nd_pow {b x k : Nat} (hb : 2 ≤ b) (h : ExP.nd b x ≤ k) : ∀ i, ExP.nd b (x ^ i) ≤ k * i + 1
  | 0 => by rw [Nat.pow_zero, ExP.nd_one hb]; omega
  | i + 1 => by
    rw [Nat.pow_succ]
    refine ExP.nd_le hb ?_
    have h1 : x < b ^ k := ExP.lt_pow_mono (by omega) (ExP.nd_lt hb x) h
    have h2 : x ^ i * x < b ^ (k * (i + 1) + 1) := by
      have h3 : x ^ i ≤ (b ^ k) ^ i := Nat.pow_le_pow_left (by omega) i
      have h4 : x ^ i * x ≤ (b ^ k) ^ i * b ^ k := Nat.mul_le_mul h3 (by omega)
      rw [← Nat.pow_mul, ← Nat.pow_add] at h4
      exact Nat.lt_of_le_of_lt h4 (Nat.pow_lt_pow_right (by omega) (by rw [Nat.mul_succ]; omega))
    exact h2
set_option maxRecDepth 100000 in
theorem mod41_any (n r : Int) (w : World) (hr : Int.tmod (Int.tmod n 41 + 41) 41 = r) : Calls Tryz.prog 29 #[.int .i64 n, .int .i64 41] w fun e w' => e = .returned (.int .i64 r) ∧ Below w.heap.size w w' := by
  have h1 : Int.tmod n 41 < 41 := Int.tmod_lt_of_pos n (by omega)
  have h2 : -41 < Int.tmod n 41 := by
    have := Int.lt_tmod_of_pos n (b := 41) (by omega)
    omega
  obtain ⟨r0, h0⟩ : ∃ r0, Int.tmod n 41 = r0 := ⟨_, rfl⟩
  rw [h0] at h1 h2 hr
  refine enter env_ok Tryz.func29 rfl Tryz.results29 Tryz.ntmps29 [] [] [.int .i64 n, .int .i64 41] (by simp [SV.oks, SV.ok]) (Nat.le_of_ble_eq_true rfl) w _ 1000 ?_
  repeat' (first | ((with_reducible first | show wpS _ _ _ _ | show putD _ _ _ _ | show putW _ _ _ _ | show splitG _ _ _ | show wpQ _ _ _ _ _ _ | show wpD _ _ _ _ _ _ _ | show wpX _ _ _ _ _ _ _ | show expX _ _ _ _ _ _ | show stepX _ _ _ _ | show keepR _ _ _ | show wpY _ _ _ _); conv => whnf) | ((with_reducible show RetN _ _ _); refine retB fun β => ?_) | ((with_reducible show _ ∧ _); first | (apply And.intro; (· intro h; exfalso; first | omega | (revert h; decide)); intro _) | (apply And.intro; rotate_left; (· intro h; exfalso; first | omega | (revert h; decide)); intro _) | (refine ⟨fun _ => ?_, fun _ => ?_⟩) | (apply And.intro; · kernel_rfl) | (apply And.intro; · (show inK _ _; unfold inK; omega)) | (apply And.intro; · (show (_ : Int) ≤ 9223372036854775807; (try simp only [List.length_append, List.length_drop, List.length_take, List.length_cons, List.length_nil]); omega))) | ((with_reducible show AllBe _); refine allBe fun βe => ?_; conv => whnf) | ((with_reducible show bothX _ _); refine bothI ?_ ?_; conv => whnf) | (with_reducible exact trivial) | ((with_reducible show CallN _ _ _ _ _ _ _ _); refine call_of env_ok rfl 1000 ?_) | ((with_reducible show XopN _ _ _ _ _ _); refine xop_of env_ok rfl 1000 ?_) | ((with_reducible show CallX _ _ _ _ _ _); first | fail) | ((with_reducible show OpX _ _ _ _); first | fail) | ((with_reducible show ∃ _ : SV, _); first | (refine ⟨_, ?ok, x_remT (by decide) h0, ?_⟩; (case ok => exact fun _ _ => trivial)) | (refine ⟨_, ?ok, x_remT (by decide) hr, ?_⟩; (case ok => exact fun _ _ => trivial))) | ((with_reducible show ∃ _, _); first | fail))
  all_goals rfl
structure RpT where
  i : Nat
  a : Option Addr
  c : Nat
  b : Option Addr
  e : Nat
set_option maxRecDepth 100000 in
set_option maxHeartbeats 4000000 in
theorem rpower_any (x : FrV) (k : Nat) (w : World) (hw0 : 0 < w.heap.size) (hk : k ≤ 1000) (hx : FrIn .i64 10 x w) (hxn : ExP.nd 10 x.n ≤ 400) (hxd : ExP.nd 10 x.d ≤ 400) :
    Calls Tryz.prog 31 #[x.val 10, .int .i64 (k : Nat)] w (FrOut .i64 10 (ExP.powN x.num k) w) := by
  have RM := fun (y : FrV) (w' : World) (h : Below w.heap.size w w') (hy : FrIn .i64 10 y w') => rmul_any y x w' (Nat.lt_of_lt_of_le hw0 h.size) hy (hx.below h)
  have H1 := fun (w' : World) (h : Below w.heap.size w w') => whole_any 1 w' (Nat.lt_of_lt_of_le hw0 h.size) (by omega) (by omega)
  rw [← ExP.pow_zero x.num] at H1
  have hS := ExP.pow_step x.num
  have B1 := ExP.nd_pow (b := 10) (by omega) hxn
  have B2 := ExP.nd_pow (b := 10) (by omega) hxd
  obtain ⟨xm, xn, xd, xa, xc, xb, xe⟩ := x
  dsimp only [FrV.num, FrV.val] at *
  have C1 : ∀ i, ExP.nd 10 (ExP.powN ⟨xm, xn, xd⟩ i).n ≤ 400 * i + 1 := B1
  have C2 : ∀ i, ExP.nd 10 (ExP.powN ⟨xm, xn, xd⟩ i).d ≤ 400 * i + 1 := B2
  clear B1 B2
  generalize ExP.powN ⟨xm, xn, xd⟩ = P at *
  refine enter env_ok Tryz.func31 rfl Tryz.results31 Tryz.ntmps31 [] [] [.agg [.bool xm, .any (.slice xa (ExP.nd 10 xn) xc), .any (.slice xb (ExP.nd 10 xd) xe)], .int .i64 (k : Nat)] ⟨⟨trivial, rfl, rfl, trivial⟩, trivial, trivial⟩ (Nat.le_of_ble_eq_true rfl) w _ 1000 ?_
  repeat' (first | ((with_reducible first | show wpS _ _ _ _ | show putD _ _ _ _ | show putW _ _ _ _ | show splitG _ _ _ | show wpQ _ _ _ _ _ _ | show wpD _ _ _ _ _ _ _ | show wpX _ _ _ _ _ _ _ | show expX _ _ _ _ _ _ | show stepX _ _ _ _ | show keepR _ _ _ | show wpY _ _ _ _); conv => whnf) | ((with_reducible show RetN _ _ _); refine retB fun β => ?_) | ((with_reducible show _ ∧ _); first | (apply And.intro; (· intro h; exfalso; first | omega | (revert h; decide)); intro _) | (apply And.intro; rotate_left; (· intro h; exfalso; first | omega | (revert h; decide)); intro _) | (refine ⟨fun _ => ?_, fun _ => ?_⟩) | (apply And.intro; · kernel_rfl) | (apply And.intro; · (show inK _ _; unfold inK; omega)) | (apply And.intro; · (show (_ : Int) ≤ 9223372036854775807; (try simp only [List.length_append, List.length_drop, List.length_take, List.length_cons, List.length_nil]); omega))) | ((with_reducible show AllBe _); refine allBe fun βe => ?_; conv => whnf) | ((with_reducible show bothX _ _); refine bothI ?_ ?_; conv => whnf) | (with_reducible exact trivial) | ((with_reducible show CallN _ _ _ _ _ _ _ _); refine call_of env_ok rfl 1000 ?_) | ((with_reducible show XopN _ _ _ _ _ _); refine xop_of env_ok rfl 1000 ?_) | ((with_reducible show CallX _ _ _ _ _ _); first | (refine callFr .i64 10 (P 0) hw0 (by kernel_rfl) rfl (fun β w' hm => H1 w' hm.below) (fun a1 c1 a2 c2 hcap => ?_))) | ((with_reducible show OpX _ _ _ _); first | fail) | ((with_reducible show ∃ _ : SV, _); first | fail) | ((with_reducible show ∃ _, _); first | fail))
  refine loop env_ok rfl (T := {t : RpT // t.i ≤ k ∧ FrCap 10 ⟨(P t.i).m, (P t.i).n, (P t.i).d, t.a, t.c, t.b, t.e⟩}) (fun t => ⟨[(2, .ptr 0 0), (4, .ptr 1 0), (5, .ptr 4 0), (7, .int .i64 (k : Nat)), (8, .int .i64 (t.1.i : Nat))], [(0, true, .cells 36 [.bool xm, .any (.slice xa (ExP.nd 10 xn) xc), .any (.slice xb (ExP.nd 10 xd) xe)]), (1, true, .cells 36 [.lit false, .any (.slice none 0 0), .any (.slice none 0 0)]), (2, false, .blob (SlF w.heap.size t.1.a (nv .i64 10 (P t.1.i).n))), (3, false, .blob (SlF w.heap.size t.1.b (nv .i64 10 (P t.1.i).d))), (4, true, .cells 36 [.bool (P t.1.i).m, .any (.slice t.1.a (ExP.nd 10 (P t.1.i).n) t.1.c), .any (.slice t.1.b (ExP.nd 10 (P t.1.i).d) t.1.e)])], 5, 15⟩) (fun t => k - t.1.i) ⟨⟨0, a1, c1, a2, c2⟩, Nat.zero_le _, hcap⟩ 1000 [] [] (fun _ => Nat.zero_le _) (by dsimp only; ((with_reducible show wk _ _); repeat' (first | exact trivial | exact eqSV_refl _ | (refine eqI ?_) | (refine eqS ?_) | (with_reducible exact rfl) | apply And.intro | exact Nat.zero_lt_one | exact Nat.le_of_ble_eq_true rfl | (with_reducible assumption) | ((show (_ : Int) = _); (try dsimp only); omega) | ((show eqSV _ _); simp [eqSV, isB, bval, *]; done) | rfl)); all_goals exact fun b x h => h) (fun t I hI => ?_)
  obtain ⟨⟨i, a, c, b, e⟩, hi, hcap2⟩ := t
  dsimp only at hi hcap2 ⊢
  have hC1 := C1 i
  have hC2 := C2 i
  by_cases hlt : i < k
  · repeat' (first | ((with_reducible first | show wpS _ _ _ _ | show putD _ _ _ _ | show putW _ _ _ _ | show splitG _ _ _ | show wpQ _ _ _ _ _ _ | show wpD _ _ _ _ _ _ _ | show wpX _ _ _ _ _ _ _ | show expX _ _ _ _ _ _ | show stepX _ _ _ _ | show keepR _ _ _ | show wpY _ _ _ _); conv => whnf) | ((with_reducible show RetN _ _ _); refine retB fun β => ?_) | ((with_reducible show _ ∧ _); first | (apply And.intro; (· intro h; exfalso; first | omega | (revert h; decide)); intro _) | (apply And.intro; rotate_left; (· intro h; exfalso; first | omega | (revert h; decide)); intro _) | (refine ⟨fun _ => ?_, fun _ => ?_⟩) | (apply And.intro; · kernel_rfl) | (apply And.intro; · (show inK _ _; unfold inK; omega)) | (apply And.intro; · (show (_ : Int) ≤ 9223372036854775807; (try simp only [List.length_append, List.length_drop, List.length_take, List.length_cons, List.length_nil]); omega))) | ((with_reducible show AllBe _); refine allBe fun βe => ?_; conv => whnf) | ((with_reducible show bothX _ _); refine bothI ?_ ?_; conv => whnf) | (with_reducible exact trivial) | ((with_reducible show CallN _ _ _ _ _ _ _ _); refine call_of env_ok rfl 1000 ?_) | ((with_reducible show XopN _ _ _ _ _ _); refine xop_of env_ok rfl 1000 ?_) | ((with_reducible show CallX _ _ _ _ _ _); first | (refine callFr .i64 10 (P (i + 1)) hw0 (by kernel_rfl) rfl (fun β w' hm => by rw [← hS i]; exact RM ⟨(P i).m, (P i).n, (P i).d, a, c, b, e⟩ w' hm.below (FrIn.of (hm.slF 2 rfl) (hm.slF 3 rfl) hcap2) (by dsimp only; omega) (by dsimp only; omega) (by omega) (by omega)) (fun a3 c3 a4 c4 hcap3 => ?_))) | ((with_reducible show OpX _ _ _ _); first | fail) | ((with_reducible show ∃ _ : SV, _); first | fail) | ((with_reducible show ∃ _, _); first | fail))
    refine back_copy 2 5 rfl rfl rfl (Nat.zero_le _) (by kernel_rfl) ?_
    refine back_copy 3 6 rfl rfl rfl (Nat.zero_le _) (by kernel_rfl) ?_
    exact hI _ ⟨⟨i + 1, a3, c3, a4, c4⟩, by dsimp only; omega, hcap3⟩ (by dsimp only; omega) (by dsimp only; ((with_reducible show wk _ _); repeat' (first | exact trivial | exact eqSV_refl _ | (refine eqI ?_) | (refine eqS ?_) | (with_reducible exact rfl) | apply And.intro | exact Nat.zero_lt_one | exact Nat.le_of_ble_eq_true rfl | (with_reducible assumption) | ((show (_ : Int) = _); (try dsimp only); omega) | ((show eqSV _ _); simp [eqSV, isB, bval, *]; done) | rfl)); all_goals exact fun b x h => h)
  · obtain rfl : i = k := by omega
    repeat' (first | ((with_reducible first | show wpS _ _ _ _ | show putD _ _ _ _ | show putW _ _ _ _ | show splitG _ _ _ | show wpQ _ _ _ _ _ _ | show wpD _ _ _ _ _ _ _ | show wpX _ _ _ _ _ _ _ | show expX _ _ _ _ _ _ | show stepX _ _ _ _ | show keepR _ _ _ | show wpY _ _ _ _); conv => whnf) | ((with_reducible show RetN _ _ _); refine retB fun β => ?_) | ((with_reducible show _ ∧ _); first | (apply And.intro; (· intro h; exfalso; first | omega | (revert h; decide)); intro _) | (apply And.intro; rotate_left; (· intro h; exfalso; first | omega | (revert h; decide)); intro _) | (refine ⟨fun _ => ?_, fun _ => ?_⟩) | (apply And.intro; · kernel_rfl) | (apply And.intro; · (show inK _ _; unfold inK; omega)) | (apply And.intro; · (show (_ : Int) ≤ 9223372036854775807; (try simp only [List.length_append, List.length_drop, List.length_take, List.length_cons, List.length_nil]); omega))) | ((with_reducible show AllBe _); refine allBe fun βe => ?_; conv => whnf) | ((with_reducible show bothX _ _); refine bothI ?_ ?_; conv => whnf) | (with_reducible exact trivial) | ((with_reducible show CallN _ _ _ _ _ _ _ _); refine call_of env_ok rfl 1000 ?_) | ((with_reducible show XopN _ _ _ _ _ _); refine xop_of env_ok rfl 1000 ?_) | ((with_reducible show CallX _ _ _ _ _ _); first | fail) | ((with_reducible show OpX _ _ _ _); first | fail) | ((with_reducible show ∃ _ : SV, _); first | fail) | ((with_reducible show ∃ _, _); first | fail))
    refine ret fun β w' hm => ?_
    exact ⟨⟨_, _, _, a, c, b, e⟩, rfl, rfl, hcap2, Ls2 (hm.slF 2 rfl) (hm.freshF 2 rfl rfl) (hm.slF 3 rfl) (hm.freshF 3 rfl rfl), hm.below⟩
end Go.Proofs.YtfodbfbljeeojaaGreatDoor
