/- Decimal numbers read. Decimal numbers read: the reference's helpers. -/
import Derived.Test.YtfodbfbljeeojaaGreatDoorEGI
import Derived.Test.YtfodbfbljeeojaaGreatDoorEGS
import Derived.Test.YtfodbfbljeeojaaGreatDoorEGU
set_option linter.unusedSimpArgs false
set_option linter.unusedVariables false
namespace Go.Proofs.YtfodbfbljeeojaaGreatDoor
namespace ExP
/-- the digits at the beginning, and what follows -/
def runD (s : Str) : Str := s.takeWhile digC
def runR (s : Str) : Str := s.dropWhile digC
theorem run_app (s : Str) : runD s ++ runR s = s := List.takeWhile_append_dropWhile
theorem take_app {a b s : Str} (h : a ++ b = s) : s.take a.length = a := by subst h; rw [List.take_left]
theorem drop_app {a b s : Str} (h : a ++ b = s) : s.drop a.length = b := by subst h; rw [List.drop_left]
theorem run_len (s : Str) : (runD s).length + (runR s).length = s.length := by
  have := congrArg List.length (run_app s)
  rwa [List.length_append] at this
theorem runD_all (s : Str) : (runD s).all digC = true := by
  unfold runD
  induction s with
  | nil => rfl
  | cons c r ih =>
    by_cases h : digC c = true
    · rw [List.takeWhile_cons_of_pos h, List.all_cons, h, ih]; rfl
    · rw [List.takeWhile_cons_of_neg h]; rfl
theorem run_take (s : Str) : s.take (s.length - (runR s).length) = runD s := by
  have h1 := run_app s
  have h2 := run_len s
  have : s.length - (runR s).length = (runD s).length := by omega
  rw [this]
  exact take_app h1
theorem run_drop (s : Str) : s.drop (runD s).length = runR s := by
  exact drop_app (run_app s)
theorem run_take' (s : Str) : s.take (runD s).length = runD s := by
  exact take_app (run_app s)
theorem run_all {s : Str} (h : s.all digC = true) : runD s = s ∧ runR s = [] := by
  unfold runD runR
  induction s with
  | nil => exact ⟨rfl, rfl⟩
  | cons c r ih =>
    simp only [List.all_cons, Bool.and_eq_true] at h
    obtain ⟨h1, h2⟩ := ih h.2
    rw [List.takeWhile_cons_of_pos h.1, List.dropWhile_cons_of_pos h.1, h1, h2]
    exact ⟨rfl, rfl⟩
theorem run_not {s : Str} (h : runR s = []) : s.all digC = true := by
  have h1 := run_app s
  rw [h, List.append_nil] at h1
  rw [← h1]; exact runD_all s
/-- the sign of an exponent -/
def sgnP (s : Str) : Bool := s.head? == some 45
def sgnR (s : Str) : Str := if s.head? = some 45 ∨ s.head? = some 43 then s.tail else s
def expOK (d : Str) : Bool := !d.isEmpty && (d.all digC && decide (d.length ≤ 3))
/-- an exponent, which can be missing -/
def expV (s : Str) : Int := match s with
  | [] => 0
  | _ :: t => if sgnP t = true then -(valS (sgnR t) : Int) else (valS (sgnR t) : Int)
def expB (s : Str) : Bool := match s with
  | [] => true
  | c :: t => (c == 101 || c == 69) && expOK (sgnR t)
theorem expOK_run {t : Str} (h : expOK t = true) : t ≠ [] ∧ runD t = t ∧ runR t = [] ∧ t.length ≤ 3 ∧ t.all digC = true := by
  simp only [expOK, Bool.and_eq_true, Bool.not_eq_true', List.isEmpty_eq_false_iff, decide_eq_true_eq] at h
  exact ⟨h.1, (run_all h.2.1).1, (run_all h.2.1).2, h.2.2, h.2.1⟩
theorem expOK_not {t : Str} (h : expOK t = false) : runD t = [] ∨ 3 < (runD t).length ∨ runR t ≠ [] := by
  by_cases hr : runR t = []
  · have ha := run_not hr
    have hd := (run_all ha).1
    rw [hd]
    by_cases h0 : t = []
    · exact .inl h0
    · refine .inr (.inl ?_)
      have : t.isEmpty = false := by simpa using h0
      rw [expOK, this, ha] at h
      simpa using h
  · exact .inr (.inr hr)
theorem val3 {t : Str} (h : expOK t = true) : valS t < 1000 := by
  obtain ⟨-, -, -, hl, ha⟩ := expOK_run h
  have := val_lt t ha
  exact Nat.lt_of_lt_of_le this (Nat.pow_le_pow_right (by omega) hl)
/-- the fraction's digits, and what follows them -/
def parD (s : Str) : Str := if s.head? = some 46 then runD s.tail else []
def parR (s : Str) : Str := if s.head? = some 46 then runR s.tail else s
/-- a point without digits -/
def parX (s : Str) : Bool := s.head? == some 46 && (runD s.tail).isEmpty
def decW (s : Str) : Str := runD (cutM s).1
def decP (s : Str) : Str := parD (runR (cutM s).1)
def decT (s : Str) : Str := parR (runR (cutM s).1)
/-- the error of a decimal number -/
def parE (s : Str) : Int :=
  if 1000 < s.length then 3
  else if parX (runR (cutM s).1) = true ∨ decW s = [] ∨ expB (decT s) = false then 10 else 0
/-- a power of ten -/
def scaleN (x : Num) (k : Int) : Num := if k < 0 then ⟨x.m, x.n, x.d * 10 ^ k.natAbs⟩ else ⟨x.m, x.n * 10 ^ k.natAbs, x.d⟩
def decN (s : Str) : Num := scaleN ⟨(cutM s).2, valS (decW s ++ decP s), 1⟩ (expV (decT s) - ((decP s).length : Int))
theorem ten_val (k : Nat) : valS (49 :: List.replicate k 48) = 10 ^ k ∧ (49 :: List.replicate k 48 : Str).all digC = true := by
  constructor
  · induction k with
    | zero => rfl
    | succ k ih =>
      rw [List.replicate_succ', ← List.cons_append, val_snoc, ih, Nat.pow_succ]
      simp
  · simp [digC]
end ExP
end Go.Proofs.YtfodbfbljeeojaaGreatDoor
namespace Go.Proofs.YtfodbfbljeeojaaGreatDoor
open Go.RowKit
open Sym
attribute [local irreducible] Calls Sym.AggEq ExP.nd ExP.dig ExP.upd
set_option maxRecDepth 100000 in
theorem rdig_any (c : UInt8) (w : World) : Calls Tryz.prog 81 #[.int .u8 (c.toNat : Int)] w fun e w' => e = .returned (.bool (ExP.digC c)) ∧ Below w.heap.size w w' := by
  have hc := c.toNat_lt
  have hd : ExP.digC c = (decide (48 ≤ c.toNat) && decide (c.toNat ≤ 57)) := by
    rw [Bool.eq_iff_iff, ExP.digC_nat]; simp
  rw [hd]
  refine enter env_ok Tryz.func81 rfl Tryz.results81 Tryz.ntmps81 [] [] [.int .u8 (c.toNat : Int)] (by simp [SV.oks, SV.ok]) (Nat.le_of_ble_eq_true rfl) w _ 1000 ?_
  repeat' (first | ((with_reducible first | show wpS _ _ _ _ | show putD _ _ _ _ | show putW _ _ _ _ | show splitG _ _ _ | show wpQ _ _ _ _ _ _ | show wpD _ _ _ _ _ _ _ | show wpX _ _ _ _ _ _ _ | show expX _ _ _ _ _ _ | show stepX _ _ _ _ | show keepR _ _ _ | show wpY _ _ _ _); conv => whnf) | ((with_reducible show RetN _ _ _); refine retB fun β => ?_) | ((with_reducible show _ ∧ _); first | (apply And.intro; (· intro h; exfalso; first | omega | (revert h; decide)); intro _) | (apply And.intro; rotate_left; (· intro h; exfalso; first | omega | (revert h; decide)); intro _) | (refine ⟨fun _ => ?_, fun _ => ?_⟩) | (apply And.intro; · kernel_rfl) | (apply And.intro; · (show inK _ _; unfold inK; omega)) | (apply And.intro; · (show (_ : Int) ≤ 9223372036854775807; (try simp only [List.length_append, List.length_drop, List.length_take, List.length_cons, List.length_nil]); omega))) | ((with_reducible show AllBe _); refine allBe fun βe => ?_; conv => whnf) | ((with_reducible show bothX _ _); refine bothI ?_ ?_; conv => whnf) | (with_reducible exact trivial) | ((with_reducible show CallN _ _ _ _ _ _ _ _); refine call_of env_ok rfl 1000 ?_) | ((with_reducible show XopN _ _ _ _ _ _); refine xop_of env_ok rfl 1000 ?_) | ((with_reducible show CallX _ _ _ _ _ _); first | fail) | ((with_reducible show OpX _ _ _ _); first | fail) | ((with_reducible show ∃ _ : SV, _); first | fail) | ((with_reducible show ∃ _, _); first | fail))
  all_goals (simp only [SV.den]; congr 1; rw [Bool.eq_iff_iff]; simp; omega)
set_option maxRecDepth 100000 in
theorem has_any (s : List UInt8) (c : UInt8) (w : World) (hs : s.length ≤ 9223372036854775807) : Calls Tryz.prog 79 #[.string (bstr s), .string (bstr [c])] w fun e w' => e = .returned (.bool (s.head? == some c)) ∧ Below w.heap.size w w' := by
  refine enter env_ok Tryz.func79 rfl Tryz.results79 Tryz.ntmps79 [] [] [.str s, .str [c]] (by simp [SV.oks, SV.ok]) (Nat.le_of_ble_eq_true rfl) w _ 1000 ?_
  cases s with
  | nil =>
    repeat' (first | ((with_reducible first | show wpS _ _ _ _ | show putD _ _ _ _ | show putW _ _ _ _ | show splitG _ _ _ | show wpQ _ _ _ _ _ _ | show wpD _ _ _ _ _ _ _ | show wpX _ _ _ _ _ _ _ | show expX _ _ _ _ _ _ | show stepX _ _ _ _ | show keepR _ _ _ | show wpY _ _ _ _); conv => whnf) | ((with_reducible show RetN _ _ _); refine retB fun β => ?_) | ((with_reducible show _ ∧ _); first | (apply And.intro; (· intro h; exfalso; first | omega | (revert h; decide)); intro _) | (apply And.intro; rotate_left; (· intro h; exfalso; first | omega | (revert h; decide)); intro _) | (refine ⟨fun _ => ?_, fun _ => ?_⟩) | (apply And.intro; · kernel_rfl) | (apply And.intro; · (show inK _ _; unfold inK; omega)) | (apply And.intro; · (show (_ : Int) ≤ 9223372036854775807; (try simp only [List.length_append, List.length_drop, List.length_take, List.length_cons, List.length_nil]); omega))) | ((with_reducible show AllBe _); refine allBe fun βe => ?_; conv => whnf) | ((with_reducible show bothX _ _); refine bothI ?_ ?_; conv => whnf) | (with_reducible exact trivial) | ((with_reducible show CallN _ _ _ _ _ _ _ _); refine call_of env_ok rfl 1000 ?_) | ((with_reducible show XopN _ _ _ _ _ _); refine xop_of env_ok rfl 1000 ?_) | ((with_reducible show CallX _ _ _ _ _ _); first | fail) | ((with_reducible show OpX _ _ _ _); first | fail) | ((with_reducible show ∃ _ : SV, _); first | fail) | ((with_reducible show ∃ _, _); first | fail))
    all_goals first | rfl | (exfalso; simp_all; done) | (exfalso; omega)
  | cons d r =>
    repeat' (first | ((with_reducible first | show wpS _ _ _ _ | show putD _ _ _ _ | show putW _ _ _ _ | show splitG _ _ _ | show wpQ _ _ _ _ _ _ | show wpD _ _ _ _ _ _ _ | show wpX _ _ _ _ _ _ _ | show expX _ _ _ _ _ _ | show stepX _ _ _ _ | show keepR _ _ _ | show wpY _ _ _ _); conv => whnf) | ((with_reducible show RetN _ _ _); refine retB fun β => ?_) | ((with_reducible show _ ∧ _); first | (apply And.intro; (· intro h; exfalso; first | omega | (revert h; decide)); intro _) | (apply And.intro; rotate_left; (· intro h; exfalso; first | omega | (revert h; decide)); intro _) | (refine ⟨fun _ => ?_, fun _ => ?_⟩) | (apply And.intro; · kernel_rfl) | (apply And.intro; · (show inK _ _; unfold inK; omega)) | (apply And.intro; · (show (_ : Int) ≤ 9223372036854775807; (try simp only [List.length_append, List.length_drop, List.length_take, List.length_cons, List.length_nil]); omega))) | ((with_reducible show AllBe _); refine allBe fun βe => ?_; conv => whnf) | ((with_reducible show bothX _ _); refine bothI ?_ ?_; conv => whnf) | (with_reducible exact trivial) | ((with_reducible show CallN _ _ _ _ _ _ _ _); refine call_of env_ok rfl 1000 ?_) | ((with_reducible show XopN _ _ _ _ _ _); refine xop_of env_ok rfl 1000 ?_) | ((with_reducible show CallX _ _ _ _ _ _); first | fail) | ((with_reducible show OpX _ _ _ _); first | fail) | ((with_reducible show ∃ _ : SV, _); first | fail) | ((with_reducible show ∃ _, _); first | (refine ⟨1, rfl, by simp, ?_⟩)))
    all_goals first | (exfalso; simp_all; done) | (exfalso; simp_all; omega) | skip
    all_goals (simp [SV.den]; try (rw [Bool.eq_iff_iff]; simp))
theorem head_drop (s : List UInt8) (n : Nat) (h : n < s.length) : s.drop n = s.getD n 0 :: s.drop (n + 1) := by rw [List.drop_eq_getElem_cons h, List.getD_eq_getElem?_getD, List.getElem?_eq_getElem h]; rfl
set_option maxRecDepth 100000 in
set_option maxHeartbeats 2000000 in
theorem span_any (s : List UInt8) (w : World) (hs : s.length ≤ 9223372036854775807) : Calls Tryz.prog 80 #[.string (bstr s), .func (.func 81) #[] #[]] w fun e w' => e = .returned (.int .i64 ((ExP.runD s).length : Nat)) ∧ Below w.heap.size w w' := by
  refine enter env_ok Tryz.func80 rfl Tryz.results80 Tryz.ntmps80 [] [] [.str s, .fn 81 []] (by simp [SV.oks, SV.ok]) (Nat.le_of_ble_eq_true rfl) w _ 1000 ?_
  repeat' (first | ((with_reducible first | show wpS _ _ _ _ | show putD _ _ _ _ | show putW _ _ _ _ | show splitG _ _ _ | show wpQ _ _ _ _ _ _ | show wpD _ _ _ _ _ _ _ | show wpX _ _ _ _ _ _ _ | show expX _ _ _ _ _ _ | show stepX _ _ _ _ | show keepR _ _ _ | show wpY _ _ _ _); conv => whnf) | ((with_reducible show RetN _ _ _); refine retB fun β => ?_) | ((with_reducible show _ ∧ _); first | (apply And.intro; (· intro h; exfalso; first | omega | (revert h; decide)); intro _) | (apply And.intro; rotate_left; (· intro h; exfalso; first | omega | (revert h; decide)); intro _) | (refine ⟨fun _ => ?_, fun _ => ?_⟩) | (apply And.intro; · kernel_rfl) | (apply And.intro; · (show inK _ _; unfold inK; omega)) | (apply And.intro; · (show (_ : Int) ≤ 9223372036854775807; (try simp only [List.length_append, List.length_drop, List.length_take, List.length_cons, List.length_nil]); omega))) | ((with_reducible show AllBe _); refine allBe fun βe => ?_; conv => whnf) | ((with_reducible show bothX _ _); refine bothI ?_ ?_; conv => whnf) | (with_reducible exact trivial) | ((with_reducible show CallN _ _ _ _ _ _ _ _); refine call_of env_ok rfl 1000 ?_) | ((with_reducible show XopN _ _ _ _ _ _); refine xop_of env_ok rfl 1000 ?_) | ((with_reducible show CallX _ _ _ _ _ _); first | fail) | ((with_reducible show OpX _ _ _ _); first | fail) | ((with_reducible show ∃ _ : SV, _); first | fail) | ((with_reducible show ∃ _, _); first | fail))
  refine loop env_ok rfl (T := {n : Nat // n ≤ s.length ∧ (ExP.runD s).length = n + (ExP.runD (s.drop n)).length}) (fun t => ⟨[(0, .str s), (1, .fn 81 []), (7, .int .i64 (s.length : Nat)), (8, .int .i64 (t.1 : Nat))], [], 0, 21⟩) (fun t => s.length - t.1) ⟨0, Nat.zero_le _, by simp⟩ 1000 [] [] (fun _ => Nat.zero_le _) (by dsimp only; ((with_reducible show wk _ _); repeat' (first | exact trivial | exact eqSV_refl _ | (refine eqI ?_) | (refine eqS ?_) | (with_reducible exact rfl) | apply And.intro | exact Nat.zero_lt_one | exact Nat.le_of_ble_eq_true rfl | (with_reducible assumption) | ((show (_ : Int) = _); (try dsimp only); omega) | ((show eqSV _ _); simp [eqSV, isB, bval, *]; done) | rfl))) (fun t I hI => ?_)
  obtain ⟨n, hn, hr⟩ := t
  dsimp only
  by_cases hlt : n < s.length
  · rw [head_drop s n hlt] at hr
    by_cases hc : ExP.digC (s.getD n 0) = true
    · have hd := fun w => rdig_any (s.getD n 0) w
      rw [hc] at hd
      unfold ExP.runD at hr
      rw [List.takeWhile_cons_of_pos hc] at hr
      repeat' (first | ((with_reducible first | show wpS _ _ _ _ | show putD _ _ _ _ | show putW _ _ _ _ | show splitG _ _ _ | show wpQ _ _ _ _ _ _ | show wpD _ _ _ _ _ _ _ | show wpX _ _ _ _ _ _ _ | show expX _ _ _ _ _ _ | show stepX _ _ _ _ | show keepR _ _ _ | show wpY _ _ _ _); conv => whnf) | ((with_reducible show RetN _ _ _); refine retB fun β => ?_) | ((with_reducible show _ ∧ _); first | (apply And.intro; (· intro h; exfalso; first | omega | (revert h; decide)); intro _) | (apply And.intro; rotate_left; (· intro h; exfalso; first | omega | (revert h; decide)); intro _) | (refine ⟨fun _ => ?_, fun _ => ?_⟩) | (apply And.intro; · kernel_rfl) | (apply And.intro; · (show inK _ _; unfold inK; omega)) | (apply And.intro; · (show (_ : Int) ≤ 9223372036854775807; (try simp only [List.length_append, List.length_drop, List.length_take, List.length_cons, List.length_nil]); omega))) | ((with_reducible show AllBe _); refine allBe fun βe => ?_; conv => whnf) | ((with_reducible show bothX _ _); refine bothI ?_ ?_; conv => whnf) | (with_reducible exact trivial) | ((with_reducible show CallN _ _ _ _ _ _ _ _); refine call_of env_ok rfl 1000 ?_) | ((with_reducible show XopN _ _ _ _ _ _); refine xop_of env_ok rfl 1000 ?_) | ((with_reducible show CallX _ _ _ _ _ _); first | (refine callX (.lit true) (by kernel_rfl) rfl (trivial) (fun β w hm => hd w) ?_)) | ((with_reducible show OpX _ _ _ _); first | fail) | ((with_reducible show ∃ _ : SV, _); first | fail) | ((with_reducible show ∃ _, _); first | (refine ⟨n, rfl, by omega, ?_⟩)))
      exact hI _ ⟨n + 1, by omega, by unfold ExP.runD; rw [hr]; simp; omega⟩ (by dsimp only; omega) (by dsimp only; ((with_reducible show wk _ _); repeat' (first | exact trivial | exact eqSV_refl _ | (refine eqI ?_) | (refine eqS ?_) | (with_reducible exact rfl) | apply And.intro | exact Nat.zero_lt_one | exact Nat.le_of_ble_eq_true rfl | (with_reducible assumption) | ((show (_ : Int) = _); (try dsimp only); omega) | ((show eqSV _ _); simp [eqSV, isB, bval, *]; done) | rfl)))
    · have hd := fun w => rdig_any (s.getD n 0) w
      rw [Bool.eq_false_iff.2 hc] at hd
      unfold ExP.runD at hr
      rw [List.takeWhile_cons_of_neg hc] at hr
      have hr2 : (ExP.runD s).length = n := by unfold ExP.runD; rw [hr]; rfl
      rw [hr2]
      repeat' (first | ((with_reducible first | show wpS _ _ _ _ | show putD _ _ _ _ | show putW _ _ _ _ | show splitG _ _ _ | show wpQ _ _ _ _ _ _ | show wpD _ _ _ _ _ _ _ | show wpX _ _ _ _ _ _ _ | show expX _ _ _ _ _ _ | show stepX _ _ _ _ | show keepR _ _ _ | show wpY _ _ _ _); conv => whnf) | ((with_reducible show RetN _ _ _); refine retB fun β => ?_) | ((with_reducible show _ ∧ _); first | (apply And.intro; (· intro h; exfalso; first | omega | (revert h; decide)); intro _) | (apply And.intro; rotate_left; (· intro h; exfalso; first | omega | (revert h; decide)); intro _) | (refine ⟨fun _ => ?_, fun _ => ?_⟩) | (apply And.intro; · kernel_rfl) | (apply And.intro; · (show inK _ _; unfold inK; omega)) | (apply And.intro; · (show (_ : Int) ≤ 9223372036854775807; (try simp only [List.length_append, List.length_drop, List.length_take, List.length_cons, List.length_nil]); omega))) | ((with_reducible show AllBe _); refine allBe fun βe => ?_; conv => whnf) | ((with_reducible show bothX _ _); refine bothI ?_ ?_; conv => whnf) | (with_reducible exact trivial) | ((with_reducible show CallN _ _ _ _ _ _ _ _); refine call_of env_ok rfl 1000 ?_) | ((with_reducible show XopN _ _ _ _ _ _); refine xop_of env_ok rfl 1000 ?_) | ((with_reducible show CallX _ _ _ _ _ _); first | (refine callX (.lit false) (by kernel_rfl) rfl (trivial) (fun β w hm => hd w) ?_)) | ((with_reducible show OpX _ _ _ _); first | fail) | ((with_reducible show ∃ _ : SV, _); first | fail) | ((with_reducible show ∃ _, _); first | (refine ⟨n, rfl, by omega, ?_⟩)))
      all_goals rfl
  · have : n = s.length := by omega
    subst this
    rw [List.drop_of_length_le (Nat.le_refl _)] at hr
    have hr2 : (ExP.runD s).length = s.length := hr
    rw [hr2]
    repeat' (first | ((with_reducible first | show wpS _ _ _ _ | show putD _ _ _ _ | show putW _ _ _ _ | show splitG _ _ _ | show wpQ _ _ _ _ _ _ | show wpD _ _ _ _ _ _ _ | show wpX _ _ _ _ _ _ _ | show expX _ _ _ _ _ _ | show stepX _ _ _ _ | show keepR _ _ _ | show wpY _ _ _ _); conv => whnf) | ((with_reducible show RetN _ _ _); refine retB fun β => ?_) | ((with_reducible show _ ∧ _); first | (apply And.intro; (· intro h; exfalso; first | omega | (revert h; decide)); intro _) | (apply And.intro; rotate_left; (· intro h; exfalso; first | omega | (revert h; decide)); intro _) | (refine ⟨fun _ => ?_, fun _ => ?_⟩) | (apply And.intro; · kernel_rfl) | (apply And.intro; · (show inK _ _; unfold inK; omega)) | (apply And.intro; · (show (_ : Int) ≤ 9223372036854775807; (try simp only [List.length_append, List.length_drop, List.length_take, List.length_cons, List.length_nil]); omega))) | ((with_reducible show AllBe _); refine allBe fun βe => ?_; conv => whnf) | ((with_reducible show bothX _ _); refine bothI ?_ ?_; conv => whnf) | (with_reducible exact trivial) | ((with_reducible show CallN _ _ _ _ _ _ _ _); refine call_of env_ok rfl 1000 ?_) | ((with_reducible show XopN _ _ _ _ _ _); refine xop_of env_ok rfl 1000 ?_) | ((with_reducible show CallX _ _ _ _ _ _); first | fail) | ((with_reducible show OpX _ _ _ _); first | fail) | ((with_reducible show ∃ _ : SV, _); first | fail) | ((with_reducible show ∃ _, _); first | fail))
    all_goals rfl
set_option maxRecDepth 100000 in
set_option maxHeartbeats 2000000 in
theorem all_any (s : List UInt8) (w : World) (hs : s.length ≤ 9223372036854775807) : Calls Tryz.prog 107 #[.string (bstr s), .func (.func 81) #[] #[]] w fun e w' => e = .returned (.bool (s.all ExP.digC)) ∧ Below w.heap.size w w' := by
  refine enter env_ok Tryz.func107 rfl Tryz.results107 Tryz.ntmps107 [] [] [.str s, .fn 81 []] (by simp [SV.oks, SV.ok]) (Nat.le_of_ble_eq_true rfl) w _ 1000 ?_
  repeat' (first | ((with_reducible first | show wpS _ _ _ _ | show putD _ _ _ _ | show putW _ _ _ _ | show splitG _ _ _ | show wpQ _ _ _ _ _ _ | show wpD _ _ _ _ _ _ _ | show wpX _ _ _ _ _ _ _ | show expX _ _ _ _ _ _ | show stepX _ _ _ _ | show keepR _ _ _ | show wpY _ _ _ _); conv => whnf) | ((with_reducible show RetN _ _ _); refine retB fun β => ?_) | ((with_reducible show _ ∧ _); first | (apply And.intro; (· intro h; exfalso; first | omega | (revert h; decide)); intro _) | (apply And.intro; rotate_left; (· intro h; exfalso; first | omega | (revert h; decide)); intro _) | (refine ⟨fun _ => ?_, fun _ => ?_⟩) | (apply And.intro; · kernel_rfl) | (apply And.intro; · (show inK _ _; unfold inK; omega)) | (apply And.intro; · (show (_ : Int) ≤ 9223372036854775807; (try simp only [List.length_append, List.length_drop, List.length_take, List.length_cons, List.length_nil]); omega))) | ((with_reducible show AllBe _); refine allBe fun βe => ?_; conv => whnf) | ((with_reducible show bothX _ _); refine bothI ?_ ?_; conv => whnf) | (with_reducible exact trivial) | ((with_reducible show CallN _ _ _ _ _ _ _ _); refine call_of env_ok rfl 1000 ?_) | ((with_reducible show XopN _ _ _ _ _ _); refine xop_of env_ok rfl 1000 ?_) | ((with_reducible show CallX _ _ _ _ _ _); first | fail) | ((with_reducible show OpX _ _ _ _); first | fail) | ((with_reducible show ∃ _ : SV, _); first | fail) | ((with_reducible show ∃ _, _); first | fail))
  refine loop env_ok rfl (T := {n : Nat // n ≤ s.length ∧ s.all ExP.digC = (s.drop n).all ExP.digC}) (fun t => ⟨[(0, .str s), (1, .fn 81 []), (7, .int .i64 (s.length : Nat)), (8, .int .i64 (t.1 : Nat))], [], 0, 18⟩) (fun t => s.length - t.1) ⟨0, Nat.zero_le _, by simp⟩ 1000 [] [] (fun _ => Nat.zero_le _) (by dsimp only; ((with_reducible show wk _ _); repeat' (first | exact trivial | exact eqSV_refl _ | (refine eqI ?_) | (refine eqS ?_) | (with_reducible exact rfl) | apply And.intro | exact Nat.zero_lt_one | exact Nat.le_of_ble_eq_true rfl | (with_reducible assumption) | ((show (_ : Int) = _); (try dsimp only); omega) | ((show eqSV _ _); simp [eqSV, isB, bval, *]; done) | rfl))) (fun t I hI => ?_)
  obtain ⟨n, hn, hr⟩ := t
  dsimp only
  by_cases hlt : n < s.length
  · rw [head_drop s n hlt, List.all_cons] at hr
    by_cases hc : ExP.digC (s.getD n 0) = true
    · have hd := fun w => rdig_any (s.getD n 0) w
      rw [hc] at hd hr
      repeat' (first | ((with_reducible first | show wpS _ _ _ _ | show putD _ _ _ _ | show putW _ _ _ _ | show splitG _ _ _ | show wpQ _ _ _ _ _ _ | show wpD _ _ _ _ _ _ _ | show wpX _ _ _ _ _ _ _ | show expX _ _ _ _ _ _ | show stepX _ _ _ _ | show keepR _ _ _ | show wpY _ _ _ _); conv => whnf) | ((with_reducible show RetN _ _ _); refine retB fun β => ?_) | ((with_reducible show _ ∧ _); first | (apply And.intro; (· intro h; exfalso; first | omega | (revert h; decide)); intro _) | (apply And.intro; rotate_left; (· intro h; exfalso; first | omega | (revert h; decide)); intro _) | (refine ⟨fun _ => ?_, fun _ => ?_⟩) | (apply And.intro; · kernel_rfl) | (apply And.intro; · (show inK _ _; unfold inK; omega)) | (apply And.intro; · (show (_ : Int) ≤ 9223372036854775807; (try simp only [List.length_append, List.length_drop, List.length_take, List.length_cons, List.length_nil]); omega))) | ((with_reducible show AllBe _); refine allBe fun βe => ?_; conv => whnf) | ((with_reducible show bothX _ _); refine bothI ?_ ?_; conv => whnf) | (with_reducible exact trivial) | ((with_reducible show CallN _ _ _ _ _ _ _ _); refine call_of env_ok rfl 1000 ?_) | ((with_reducible show XopN _ _ _ _ _ _); refine xop_of env_ok rfl 1000 ?_) | ((with_reducible show CallX _ _ _ _ _ _); first | (refine callX (.lit true) (by kernel_rfl) rfl (trivial) (fun β w hm => hd w) ?_)) | ((with_reducible show OpX _ _ _ _); first | fail) | ((with_reducible show ∃ _ : SV, _); first | fail) | ((with_reducible show ∃ _, _); first | (refine ⟨n, rfl, by omega, ?_⟩)))
      exact hI _ ⟨n + 1, by omega, by rw [hr]; simp⟩ (by dsimp only; omega) (by dsimp only; ((with_reducible show wk _ _); repeat' (first | exact trivial | exact eqSV_refl _ | (refine eqI ?_) | (refine eqS ?_) | (with_reducible exact rfl) | apply And.intro | exact Nat.zero_lt_one | exact Nat.le_of_ble_eq_true rfl | (with_reducible assumption) | ((show (_ : Int) = _); (try dsimp only); omega) | ((show eqSV _ _); simp [eqSV, isB, bval, *]; done) | rfl)))
    · have hd := fun w => rdig_any (s.getD n 0) w
      rw [Bool.eq_false_iff.2 hc] at hd hr
      rw [Bool.false_and] at hr
      rw [hr]
      repeat' (first | ((with_reducible first | show wpS _ _ _ _ | show putD _ _ _ _ | show putW _ _ _ _ | show splitG _ _ _ | show wpQ _ _ _ _ _ _ | show wpD _ _ _ _ _ _ _ | show wpX _ _ _ _ _ _ _ | show expX _ _ _ _ _ _ | show stepX _ _ _ _ | show keepR _ _ _ | show wpY _ _ _ _); conv => whnf) | ((with_reducible show RetN _ _ _); refine retB fun β => ?_) | ((with_reducible show _ ∧ _); first | (apply And.intro; (· intro h; exfalso; first | omega | (revert h; decide)); intro _) | (apply And.intro; rotate_left; (· intro h; exfalso; first | omega | (revert h; decide)); intro _) | (refine ⟨fun _ => ?_, fun _ => ?_⟩) | (apply And.intro; · kernel_rfl) | (apply And.intro; · (show inK _ _; unfold inK; omega)) | (apply And.intro; · (show (_ : Int) ≤ 9223372036854775807; (try simp only [List.length_append, List.length_drop, List.length_take, List.length_cons, List.length_nil]); omega))) | ((with_reducible show AllBe _); refine allBe fun βe => ?_; conv => whnf) | ((with_reducible show bothX _ _); refine bothI ?_ ?_; conv => whnf) | (with_reducible exact trivial) | ((with_reducible show CallN _ _ _ _ _ _ _ _); refine call_of env_ok rfl 1000 ?_) | ((with_reducible show XopN _ _ _ _ _ _); refine xop_of env_ok rfl 1000 ?_) | ((with_reducible show CallX _ _ _ _ _ _); first | (refine callX (.lit false) (by kernel_rfl) rfl (trivial) (fun β w hm => hd w) ?_)) | ((with_reducible show OpX _ _ _ _); first | fail) | ((with_reducible show ∃ _ : SV, _); first | fail) | ((with_reducible show ∃ _, _); first | (refine ⟨n, rfl, by omega, ?_⟩)))
      all_goals rfl
  · rw [List.drop_of_length_le (by omega)] at hr
    rw [hr]
    repeat' (first | ((with_reducible first | show wpS _ _ _ _ | show putD _ _ _ _ | show putW _ _ _ _ | show splitG _ _ _ | show wpQ _ _ _ _ _ _ | show wpD _ _ _ _ _ _ _ | show wpX _ _ _ _ _ _ _ | show expX _ _ _ _ _ _ | show stepX _ _ _ _ | show keepR _ _ _ | show wpY _ _ _ _); conv => whnf) | ((with_reducible show RetN _ _ _); refine retB fun β => ?_) | ((with_reducible show _ ∧ _); first | (apply And.intro; (· intro h; exfalso; first | omega | (revert h; decide)); intro _) | (apply And.intro; rotate_left; (· intro h; exfalso; first | omega | (revert h; decide)); intro _) | (refine ⟨fun _ => ?_, fun _ => ?_⟩) | (apply And.intro; · kernel_rfl) | (apply And.intro; · (show inK _ _; unfold inK; omega)) | (apply And.intro; · (show (_ : Int) ≤ 9223372036854775807; (try simp only [List.length_append, List.length_drop, List.length_take, List.length_cons, List.length_nil]); omega))) | ((with_reducible show AllBe _); refine allBe fun βe => ?_; conv => whnf) | ((with_reducible show bothX _ _); refine bothI ?_ ?_; conv => whnf) | (with_reducible exact trivial) | ((with_reducible show CallN _ _ _ _ _ _ _ _); refine call_of env_ok rfl 1000 ?_) | ((with_reducible show XopN _ _ _ _ _ _); refine xop_of env_ok rfl 1000 ?_) | ((with_reducible show CallX _ _ _ _ _ _); first | fail) | ((with_reducible show OpX _ _ _ _); first | fail) | ((with_reducible show ∃ _ : SV, _); first | fail) | ((with_reducible show ∃ _, _); first | fail))
    all_goals rfl
set_option maxRecDepth 100000 in
theorem allDigits_any (s : List UInt8) (w : World) (hs : s.length ≤ 9223372036854775807) : Calls Tryz.prog 82 #[.string (bstr s)] w fun e w' => e = .returned (.bool (!s.isEmpty && s.all ExP.digC)) ∧ Below w.heap.size w w' := by
  have HA := fun w => all_any s w hs
  have he : s.isEmpty = decide (s = []) := by cases s <;> simp
  rw [he]
  generalize s.all ExP.digC = b at *
  refine enter env_ok Tryz.func82 rfl Tryz.results82 Tryz.ntmps82 [] [] [.str s] (by simp [SV.oks, SV.ok]) (Nat.le_of_ble_eq_true rfl) w _ 1000 ?_
  repeat' (first | ((with_reducible first | show wpS _ _ _ _ | show putD _ _ _ _ | show putW _ _ _ _ | show splitG _ _ _ | show wpQ _ _ _ _ _ _ | show wpD _ _ _ _ _ _ _ | show wpX _ _ _ _ _ _ _ | show expX _ _ _ _ _ _ | show stepX _ _ _ _ | show keepR _ _ _ | show wpY _ _ _ _); conv => whnf) | ((with_reducible show RetN _ _ _); refine retB fun β => ?_) | ((with_reducible show _ ∧ _); first | (apply And.intro; (· intro h; exfalso; first | omega | (revert h; decide)); intro _) | (apply And.intro; rotate_left; (· intro h; exfalso; first | omega | (revert h; decide)); intro _) | (refine ⟨fun _ => ?_, fun _ => ?_⟩) | (apply And.intro; · kernel_rfl) | (apply And.intro; · (show inK _ _; unfold inK; omega)) | (apply And.intro; · (show (_ : Int) ≤ 9223372036854775807; (try simp only [List.length_append, List.length_drop, List.length_take, List.length_cons, List.length_nil]); omega))) | ((with_reducible show AllBe _); refine allBe fun βe => ?_; conv => whnf) | ((with_reducible show bothX _ _); refine bothI ?_ ?_; conv => whnf) | (with_reducible exact trivial) | ((with_reducible show CallN _ _ _ _ _ _ _ _); refine call_of env_ok rfl 1000 ?_) | ((with_reducible show XopN _ _ _ _ _ _); refine xop_of env_ok rfl 1000 ?_) | ((with_reducible show CallX _ _ _ _ _ _); first | (refine callX (.bool b) (by kernel_rfl) rfl (trivial) (fun β w hm => HA w) ?_)) | ((with_reducible show OpX _ _ _ _); first | fail) | ((with_reducible show ∃ _ : SV, _); first | fail) | ((with_reducible show ∃ _, _); first | fail))
  all_goals simp_all [SV.den]
theorem ExP.valF_take (s : List UInt8) (n : Nat) (h : n < s.length) : ExP.valS (s.take (n + 1)) = 10 * ExP.valS (s.take n) + ((s.getD n 0).toNat - 48) := by
  have e : s.take (n + 1) = s.take n ++ [s.getD n 0] := by
    rw [List.take_add_one, List.getD_eq_getElem?_getD, List.getElem?_eq_getElem h]; rfl
  rw [e, ExP.val_snoc, Nat.mul_comm]
set_option maxRecDepth 100000 in
set_option maxHeartbeats 2000000 in
theorem small_any (s : List UInt8) (w : World) (hs : s.length ≤ 3) (ha : s.all ExP.digC = true) : Calls Tryz.prog 83 #[.string (bstr s)] w fun e w' => e = .returned (.int .i64 (ExP.valS s : Nat)) ∧ Below w.heap.size w w' := by
  have hb : ∀ n, n ≤ s.length → ExP.valS (s.take n) < 1000 := fun n hn => by
    have h1 := ExP.val_lt _ (all_take ha n)
    have h2 : (s.take n).length ≤ 3 := by simp; omega
    exact Nat.lt_of_lt_of_le h1 (Nat.pow_le_pow_right (by omega) h2)
  refine enter env_ok Tryz.func83 rfl Tryz.results83 Tryz.ntmps83 [] [] [.str s] (by simp [SV.oks, SV.ok]) (Nat.le_of_ble_eq_true rfl) w _ 1000 ?_
  repeat' (first | ((with_reducible first | show wpS _ _ _ _ | show putD _ _ _ _ | show putW _ _ _ _ | show splitG _ _ _ | show wpQ _ _ _ _ _ _ | show wpD _ _ _ _ _ _ _ | show wpX _ _ _ _ _ _ _ | show expX _ _ _ _ _ _ | show stepX _ _ _ _ | show keepR _ _ _ | show wpY _ _ _ _); conv => whnf) | ((with_reducible show RetN _ _ _); refine retB fun β => ?_) | ((with_reducible show _ ∧ _); first | (apply And.intro; (· intro h; exfalso; first | omega | (revert h; decide)); intro _) | (apply And.intro; rotate_left; (· intro h; exfalso; first | omega | (revert h; decide)); intro _) | (refine ⟨fun _ => ?_, fun _ => ?_⟩) | (apply And.intro; · kernel_rfl) | (apply And.intro; · (show inK _ _; unfold inK; omega)) | (apply And.intro; · (show (_ : Int) ≤ 9223372036854775807; (try simp only [List.length_append, List.length_drop, List.length_take, List.length_cons, List.length_nil]); omega))) | ((with_reducible show AllBe _); refine allBe fun βe => ?_; conv => whnf) | ((with_reducible show bothX _ _); refine bothI ?_ ?_; conv => whnf) | (with_reducible exact trivial) | ((with_reducible show CallN _ _ _ _ _ _ _ _); refine call_of env_ok rfl 1000 ?_) | ((with_reducible show XopN _ _ _ _ _ _); refine xop_of env_ok rfl 1000 ?_) | ((with_reducible show CallX _ _ _ _ _ _); first | fail) | ((with_reducible show OpX _ _ _ _); first | fail) | ((with_reducible show ∃ _ : SV, _); first | fail) | ((with_reducible show ∃ _, _); first | fail))
  refine loop env_ok rfl (T := {n : Nat // n ≤ s.length}) (fun t => ⟨[(0, .str s), (3, .int .i64 (ExP.valS (s.take t.1) : Nat)), (6, .int .i64 (s.length : Nat)), (7, .int .i64 (t.1 : Nat))], [], 0, 20⟩) (fun t => s.length - t.1) ⟨0, Nat.zero_le _⟩ 1000 [] [] (fun _ => Nat.zero_le _) (by dsimp only; rw [List.take_zero]; ((with_reducible show wk _ _); repeat' (first | exact trivial | exact eqSV_refl _ | (refine eqI ?_) | (refine eqS ?_) | (with_reducible exact rfl) | apply And.intro | exact Nat.zero_lt_one | exact Nat.le_of_ble_eq_true rfl | (with_reducible assumption) | ((show (_ : Int) = _); (try dsimp only); omega) | ((show eqSV _ _); simp [eqSV, isB, bval, *]; done) | rfl))) (fun t I hI => ?_)
  obtain ⟨n, hn⟩ := t
  dsimp only
  have h1 := hb n hn
  by_cases hlt : n < s.length
  · have h2 := hb (n + 1) (by omega)
    rw [ExP.valF_take s n hlt] at h2
    have hd := ExP.digC_nat.1 (all_at ha hlt)
    repeat' (first | ((with_reducible first | show wpS _ _ _ _ | show putD _ _ _ _ | show putW _ _ _ _ | show splitG _ _ _ | show wpQ _ _ _ _ _ _ | show wpD _ _ _ _ _ _ _ | show wpX _ _ _ _ _ _ _ | show expX _ _ _ _ _ _ | show stepX _ _ _ _ | show keepR _ _ _ | show wpY _ _ _ _); conv => whnf) | ((with_reducible show RetN _ _ _); refine retB fun β => ?_) | ((with_reducible show _ ∧ _); first | (apply And.intro; (· intro h; exfalso; first | omega | (revert h; decide)); intro _) | (apply And.intro; rotate_left; (· intro h; exfalso; first | omega | (revert h; decide)); intro _) | (refine ⟨fun _ => ?_, fun _ => ?_⟩) | (apply And.intro; · kernel_rfl) | (apply And.intro; · (show inK _ _; unfold inK; omega)) | (apply And.intro; · (show (_ : Int) ≤ 9223372036854775807; (try simp only [List.length_append, List.length_drop, List.length_take, List.length_cons, List.length_nil]); omega))) | ((with_reducible show AllBe _); refine allBe fun βe => ?_; conv => whnf) | ((with_reducible show bothX _ _); refine bothI ?_ ?_; conv => whnf) | (with_reducible exact trivial) | ((with_reducible show CallN _ _ _ _ _ _ _ _); refine call_of env_ok rfl 1000 ?_) | ((with_reducible show XopN _ _ _ _ _ _); refine xop_of env_ok rfl 1000 ?_) | ((with_reducible show CallX _ _ _ _ _ _); first | fail) | ((with_reducible show OpX _ _ _ _); first | fail) | ((with_reducible show ∃ _ : SV, _); first | fail) | ((with_reducible show ∃ _, _); first | (refine ⟨n, rfl, by omega, ?_⟩)))
    all_goals exact hI _ ⟨n + 1, by omega⟩ (by dsimp only; omega) (by dsimp only; rw [ExP.valF_take s n hlt]; ((with_reducible show wk _ _); repeat' (first | exact trivial | exact eqSV_refl _ | (refine eqI ?_) | (refine eqS ?_) | (with_reducible exact rfl) | apply And.intro | exact Nat.zero_lt_one | exact Nat.le_of_ble_eq_true rfl | (with_reducible assumption) | ((show (_ : Int) = _); (try dsimp only); omega) | ((show eqSV _ _); simp [eqSV, isB, bval, *]; done) | rfl)))
  · have e : s.take n = s := List.take_of_length_le (by omega)
    rw [e]
    repeat' (first | ((with_reducible first | show wpS _ _ _ _ | show putD _ _ _ _ | show putW _ _ _ _ | show splitG _ _ _ | show wpQ _ _ _ _ _ _ | show wpD _ _ _ _ _ _ _ | show wpX _ _ _ _ _ _ _ | show expX _ _ _ _ _ _ | show stepX _ _ _ _ | show keepR _ _ _ | show wpY _ _ _ _); conv => whnf) | ((with_reducible show RetN _ _ _); refine retB fun β => ?_) | ((with_reducible show _ ∧ _); first | (apply And.intro; (· intro h; exfalso; first | omega | (revert h; decide)); intro _) | (apply And.intro; rotate_left; (· intro h; exfalso; first | omega | (revert h; decide)); intro _) | (refine ⟨fun _ => ?_, fun _ => ?_⟩) | (apply And.intro; · kernel_rfl) | (apply And.intro; · (show inK _ _; unfold inK; omega)) | (apply And.intro; · (show (_ : Int) ≤ 9223372036854775807; (try simp only [List.length_append, List.length_drop, List.length_take, List.length_cons, List.length_nil]); omega))) | ((with_reducible show AllBe _); refine allBe fun βe => ?_; conv => whnf) | ((with_reducible show bothX _ _); refine bothI ?_ ?_; conv => whnf) | (with_reducible exact trivial) | ((with_reducible show CallN _ _ _ _ _ _ _ _); refine call_of env_ok rfl 1000 ?_) | ((with_reducible show XopN _ _ _ _ _ _); refine xop_of env_ok rfl 1000 ?_) | ((with_reducible show CallX _ _ _ _ _ _); first | fail) | ((with_reducible show OpX _ _ _ _); first | fail) | ((with_reducible show ∃ _ : SV, _); first | fail) | ((with_reducible show ∃ _, _); first | fail))
    all_goals rfl
end Go.Proofs.YtfodbfbljeeojaaGreatDoor
