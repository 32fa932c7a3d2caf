/- Names: letters of either case held against each other; the forms of names. Names: which texts are names, the program's and the reference's. Formulas in which a sheet is named anew; small letters. Formulas in which a name is named anew: the program's. -/
import Derived.Test.YtmodjglbjempkaaGreatDoorHScD
import Derived.Test.YtmodjglbjempkaaGreatDoorHSb
import Derived.Test.YtmodjglbjempkaaGreatDoorHSc13
set_option linter.unusedSimpArgs false
set_option linter.unusedVariables false
namespace Go.Proofs.YtmodjglbjempkaaGreatDoor
open Go.RowKit
open Sym
attribute [local irreducible] Calls Sym.AggEq
namespace ScP
def lowC (c : UInt8) : UInt8 := if 65 ≤ c ∧ c ≤ 90 then c + 32 else c
def lowP (s : Str) : Str := s.map lowC
theorem lowC_nat (c : UInt8) : (lowC c).toNat = if 65 ≤ c.toNat ∧ c.toNat ≤ 90 then c.toNat + 32 else c.toNat := by
  unfold lowC
  have e : (65 ≤ c ∧ c ≤ 90) ↔ (65 ≤ c.toNat ∧ c.toNat ≤ 90) := by simp [UInt8.le_iff_toNat_le]
  by_cases h : 65 ≤ c.toNat ∧ c.toNat ≤ 90
  · rw [if_pos (e.2 h), if_pos h, UInt8.toNat_add]
    have : (32 : UInt8).toNat = 32 := rfl
    omega
  · rw [if_neg (fun k => h (e.1 k)), if_neg h]
theorem lowC_same {a b : UInt8} (h : a.toNat = b.toNat ∨ (65 ≤ a.toNat ∧ a.toNat ≤ 90 ∧ b.toNat = a.toNat + 32) ∨ (65 ≤ b.toNat ∧ b.toNat ≤ 90 ∧ a.toNat = b.toNat + 32)) : lowC a = lowC b := by
  apply UInt8.toNat_inj.1
  rw [lowC_nat, lowC_nat]
  split <;> split <;> omega
theorem lowC_other {a b : UInt8} (h : ¬ (a.toNat = b.toNat ∨ (65 ≤ a.toNat ∧ a.toNat ≤ 90 ∧ b.toNat = a.toNat + 32) ∨ (65 ≤ b.toNat ∧ b.toNat ≤ 90 ∧ a.toNat = b.toNat + 32))) : lowC a ≠ lowC b := by
  intro e
  have e := congrArg UInt8.toNat e
  rw [lowC_nat, lowC_nat] at e
  split at e <;> split at e <;> omega
theorem low_take {s : Str} {i : Nat} (h : i < s.length) : lowP (s.take (i + 1)) = lowP (s.take i) ++ [lowC (s.getD i 0)] := by
  rw [take_next0 s i h]; simp [lowP]
theorem low_at {s t : Str} {i : Nat} (hs : i < s.length) (ht : i < t.length) (h : lowP s = lowP t) : lowC (s.getD i 0) = lowC (t.getD i 0) := by
  have e := congrArg (·[i]?) h
  simp only [lowP, List.getElem?_map, List.getElem?_eq_getElem hs, List.getElem?_eq_getElem ht, Option.map_some, Option.some.injEq] at e
  simpa [List.getD_eq_getElem?_getD, List.getElem?_eq_getElem hs, List.getElem?_eq_getElem ht] using e
end ScP
theorem or_low {a b : UInt8} (ha : a < 128) (hb : b < 128) : ¬ (128 : Int) ≤ ((a ||| b).toNat : Int) := by
  have h : (a ||| b).toNat < 2 ^ 7 := by
    rw [UInt8.toNat_or]
    exact Nat.or_lt_two_pow (by simpa [UInt8.lt_iff_toNat_lt] using ha) (by simpa [UInt8.lt_iff_toNat_lt] using hb)
  omega
set_option maxRecDepth 100000 in
set_option maxHeartbeats 2000000 in
theorem fold_any (s t : List UInt8) (w : World) (hs : s.length ≤ 2000000) (ht : t.length ≤ 2000000) (has : ∀ c ∈ s, c < 128) (hat : ∀ c ∈ t, c < 128) : Calls Tryz.prog 64 #[.string (bstr s), .string (bstr t)] w fun e w' => e = .returned (.bool (ScP.lowP s == ScP.lowP t)) ∧ Below w.heap.size w w' := by
  refine enter env_ok Tryz.func64 rfl Tryz.results64 Tryz.ntmps64 [] [] [.str s, .str t] (by simp [SV.oks, SV.ok]) (Nat.le_of_ble_eq_true rfl) w _ 1000 ?_
  conv => whnf
  refine scopeN env_ok rfl 1000 ?_
  repeat' (first | ((with_reducible first | show wpS _ _ _ _ | show putD _ _ _ _ | show putW _ _ _ _ | show splitG _ _ _ | show wpQ _ _ _ _ _ _ | show wpD _ _ _ _ _ _ _ | show wpX _ _ _ _ _ _ | show expX _ _ _ _ _ _ | show stepX _ _ _ _); conv => whnf) | ((with_reducible show RetN _ _ _); refine retB fun β => ?_) | ((with_reducible show _ ∧ _); first | (apply And.intro; (· intro h; exfalso; first | omega | (revert h; decide)); intro _) | (apply And.intro; rotate_left; (· intro h; exfalso; first | omega | (revert h; decide)); intro _) | (refine ⟨fun _ => ?_, fun _ => ?_⟩) | (apply And.intro; · kernel_rfl) | (apply And.intro; · (show inK _ _; unfold inK; omega)) | (apply And.intro; · (show (_ : Int) ≤ 9223372036854775807; (try simp only [List.length_append, List.length_drop, List.length_take, List.length_cons, List.length_nil]); omega))) | ((with_reducible show bothX _ _); refine bothI ?_ ?_; conv => whnf) | (with_reducible exact trivial) | ((with_reducible show CallN _ _ _ _ _ _ _ _); refine call_of env_ok rfl 1000 ?_) | ((with_reducible show XopN _ _ _ _ _ _); refine xop_of env_ok rfl 1000 ?_) | ((with_reducible show CallX _ _ _ _ _ _); first | fail) | ((with_reducible show OpX _ _ _ _); first | fail) | ((with_reducible show ∃ _ : SV, _); first | fail) | ((with_reducible show ∃ _, _); first | fail))
  refine loop env_ok rfl (T := {i : Nat // i ≤ s.length ∧ i ≤ t.length ∧ ScP.lowP (s.take i) = ScP.lowP (t.take i)}) (fun r => ⟨[(0, .str s), (1, .str t), (5, .int .i64 (r.1 : Nat)), (6, .int .i64 (min (s.length : Int) (t.length : Int)))], [], 0, 123⟩) (fun r => s.length - r.1) ⟨0, Nat.zero_le _, Nat.zero_le _, rfl⟩ 1000 [] [] (fun _ => Nat.zero_le _) (by ((with_reducible show wk _ _); repeat' (first | exact trivial | exact eqSV_refl _ | (refine eqI ?_) | (refine eqS ?_) | (with_reducible exact rfl) | apply And.intro | exact Nat.zero_lt_one | exact Nat.le_of_ble_eq_true rfl | (with_reducible assumption) | ((show (_ : Int) = _); (try dsimp only); omega) | ((show eqSV _ _); simp [eqSV, isB, bval, *]; done) | rfl))) (fun r I hI => ?_)
  obtain ⟨i, hi, hj, hr⟩ := r
  dsimp only
  by_cases hlt : i < s.length ∧ i < t.length
  · obtain ⟨h1, h2⟩ := hlt
    have ha := has (s.getD i 0) (by rw [List.getD_eq_getElem?_getD, List.getElem?_eq_getElem h1]; exact List.getElem_mem h1)
    have hb := hat (t.getD i 0) (by rw [List.getD_eq_getElem?_getD, List.getElem?_eq_getElem h2]; exact List.getElem_mem h2)
    have hab := or_low ha hb
    have hst := ScP.low_take h1
    have htt := ScP.low_take h2
    have hno := fun h => ScP.low_at h1 h2 h
    clear has hat
    have a1 := (s.getD i 0).toNat_lt
    have b1 := (t.getD i 0).toNat_lt
    repeat' (first | ((with_reducible first | show wpS _ _ _ _ | show putD _ _ _ _ | show putW _ _ _ _ | show splitG _ _ _ | show wpQ _ _ _ _ _ _ | show wpD _ _ _ _ _ _ _ | show wpX _ _ _ _ _ _ | show expX _ _ _ _ _ _ | show stepX _ _ _ _); conv => whnf) | ((with_reducible show RetN _ _ _); refine retB fun β => ?_) | ((with_reducible show _ ∧ _); first | (apply And.intro; (· intro h; exfalso; first | omega | (revert h; decide)); intro _) | (apply And.intro; rotate_left; (· intro h; exfalso; first | omega | (revert h; decide)); intro _) | (refine ⟨fun _ => ?_, fun _ => ?_⟩) | (apply And.intro; · kernel_rfl) | (apply And.intro; · (show inK _ _; unfold inK; omega)) | (apply And.intro; · (show (_ : Int) ≤ 9223372036854775807; (try simp only [List.length_append, List.length_drop, List.length_take, List.length_cons, List.length_nil]); omega))) | ((with_reducible show bothX _ _); refine bothI ?_ ?_; conv => whnf) | (with_reducible exact trivial) | ((with_reducible show CallN _ _ _ _ _ _ _ _); refine call_of env_ok rfl 1000 ?_) | ((with_reducible show XopN _ _ _ _ _ _); refine xop_of env_ok rfl 1000 ?_) | ((with_reducible show CallX _ _ _ _ _ _); first | fail) | ((with_reducible show OpX _ _ _ _); first | fail) | ((with_reducible show ∃ _ : SV, _); first | (refine ⟨_, ?ok, x_or8 (s.getD i 0) (t.getD i 0), ?_⟩; (case ok => exact fun _ _ => trivial))) | ((with_reducible show ∃ _, _); first | (refine ⟨i, rfl, by omega, ?_⟩)))
    all_goals first | (have e9 : ScP.lowC (s.getD i 0) = ScP.lowC (t.getD i 0) := ScP.lowC_same (by omega); refine hI _ ⟨i + 1, by omega, by omega, by rw [hst, htt, hr, e9]⟩ (by dsimp only; omega) (by ((with_reducible show wk _ _); repeat' (first | exact trivial | exact eqSV_refl _ | (refine eqI ?_) | (refine eqS ?_) | (with_reducible exact rfl) | apply And.intro | exact Nat.zero_lt_one | exact Nat.le_of_ble_eq_true rfl | (with_reducible assumption) | ((show (_ : Int) = _); (try dsimp only); omega) | ((show eqSV _ _); simp [eqSV, isB, bval, *]; done) | rfl)))) | (show Value.bool false = _; rw [beq_eq_false_iff_ne.2 (fun h => absurd (hno h) (ScP.lowC_other (by omega)))])
  · repeat' (first | ((with_reducible first | show wpS _ _ _ _ | show putD _ _ _ _ | show putW _ _ _ _ | show splitG _ _ _ | show wpQ _ _ _ _ _ _ | show wpD _ _ _ _ _ _ _ | show wpX _ _ _ _ _ _ | show expX _ _ _ _ _ _ | show stepX _ _ _ _); conv => whnf) | ((with_reducible show RetN _ _ _); refine retB fun β => ?_) | ((with_reducible show _ ∧ _); first | (apply And.intro; (· intro h; exfalso; first | omega | (revert h; decide)); intro _) | (apply And.intro; rotate_left; (· intro h; exfalso; first | omega | (revert h; decide)); intro _) | (refine ⟨fun _ => ?_, fun _ => ?_⟩) | (apply And.intro; · kernel_rfl) | (apply And.intro; · (show inK _ _; unfold inK; omega)) | (apply And.intro; · (show (_ : Int) ≤ 9223372036854775807; (try simp only [List.length_append, List.length_drop, List.length_take, List.length_cons, List.length_nil]); omega))) | ((with_reducible show bothX _ _); refine bothI ?_ ?_; conv => whnf) | (with_reducible exact trivial) | ((with_reducible show CallN _ _ _ _ _ _ _ _); refine call_of env_ok rfl 1000 ?_) | ((with_reducible show XopN _ _ _ _ _ _); refine xop_of env_ok rfl 1000 ?_) | ((with_reducible show CallX _ _ _ _ _ _); first | fail) | ((with_reducible show OpX _ _ _ _); first | fail) | ((with_reducible show ∃ _ : SV, _); first | fail) | ((with_reducible show ∃ _, _); first | fail))
    show Value.bool (decide _) = _
    congr 1
    by_cases h : s.length = t.length
    · rw [List.take_of_length_le (by omega), List.take_of_length_le (by omega)] at hr
      rw [hr]; simp [h]
    · rw [decide_eq_false (by omega), eq_comm, beq_eq_false_iff_ne]
      intro e
      have := congrArg List.length e
      simp [ScP.lowP] at this
      exact h this
end Go.Proofs.YtmodjglbjempkaaGreatDoor
namespace Go.Proofs.YtmodjglbjempkaaGreatDoor
open Go.RowKit
open Sym
attribute [local irreducible] Calls Sym.AggEq
namespace ScP
def nameC (c : UInt8) : Bool := RfP.isLetter c || (RfP.isDigit c || (c == 95 || c == 46))
def firstC (c : UInt8) : Bool := RfP.isLetter c || c == 95
def formP (s : Str) : Bool := !s.isEmpty && (firstC (s.getD 0 0) && s.all nameC)
def namedP (s : Str) : Bool := formP s && !isRefP s
theorem run_all {p : UInt8 → Bool} : ∀ s : Str, runP p s = s.length ↔ s.all p = true
  | [] => by simp [runP]
  | c :: s => by
    have := run_all (p := p) s
    unfold runP at this ⊢
    by_cases h : p c = true
    · rw [List.takeWhile_cons_of_pos h]; simp [h]; simpa using this
    · rw [List.takeWhile_cons_of_neg h]; simp [h]
theorem name_wordly {c : UInt8} : nameC c = true ↔ (wordlyC c = true ∧ c ≠ 36) := by
  unfold nameC wordlyC cornerC
  have e : RfP.isLetter 36 = false := by decide
  have e2 : RfP.isDigit 36 = false := by decide
  by_cases h : c = 36
  · subst h; simp [e, e2]
  · simp [h, or_assoc]
theorem all_name {s : Str} : s.all nameC = true ↔ (s.all wordlyC = true ∧ s.contains 36 = false) := by
  rw [List.all_eq_true, List.all_eq_true]
  constructor
  · intro h
    refine ⟨fun c hc => (name_wordly.1 (h c hc)).1, ?_⟩
    rw [Bool.eq_false_iff]
    intro hc
    have := h 36 (by simpa using hc)
    exact (name_wordly.1 this).2 rfl
  · rintro ⟨h1, h2⟩ c hc
    refine name_wordly.2 ⟨h1 c hc, ?_⟩
    rintro rfl
    rw [Bool.eq_false_iff] at h2
    exact h2 (by simpa using hc)
set_option maxRecDepth 100000 in
theorem first_of {c : UInt8} (h : nameC c = true) : firstC c = true ↔ (RfP.isDigit c = false ∧ c ≠ 46) := by
  have key : ∀ k : Fin 256, nameC (UInt8.ofNat k.val) = true → (firstC (UInt8.ofNat k.val) = true ↔ (RfP.isDigit (UInt8.ofNat k.val) = false ∧ UInt8.ofNat k.val ≠ 46)) := by decide
  have hc : UInt8.ofNat c.toNat = c := by simp
  have := key ⟨c.toNat, c.toNat_lt⟩
  dsimp only at this
  rw [hc] at this
  exact this h
theorem at_zero {s : Str} {p : UInt8 → Bool} (h : s ≠ []) (ha : s.all p = true) : p (s.getD 0 0) = true := by
  cases s with
  | nil => exact absurd rfl h
  | cons c r => simp at ha; exact ha.1
set_option maxRecDepth 100000 in
theorem name_ascii {c : UInt8} (h : nameC c = true) : c < 128 := by
  have key : ∀ k : Fin 256, nameC (UInt8.ofNat k.val) = true → UInt8.ofNat k.val < 128 := by decide
  have hc : UInt8.ofNat c.toNat = c := by simp
  have := key ⟨c.toNat, c.toNat_lt⟩
  dsimp only at this
  rw [hc] at this
  exact this h
theorem form_yes {s : Str} (h0 : s ≠ []) (h1 : RfP.isDigit (s.getD 0 0) = false) (h2 : s.getD 0 0 ≠ 46) (h3 : runP wordlyC s = s.length) (h4 : s.contains 36 = false) : formP s = true := by
  have ha := all_name.2 ⟨(run_all s).1 h3, h4⟩
  unfold formP
  rw [ha, (first_of (at_zero h0 ha)).2 ⟨h1, h2⟩]
  cases s with
  | nil => exact absurd rfl h0
  | cons c r => rfl
theorem form_no {s : Str} (h : formP s = true) : s ≠ [] ∧ RfP.isDigit (s.getD 0 0) = false ∧ s.getD 0 0 ≠ 46 ∧ runP wordlyC s = s.length ∧ s.contains 36 = false := by
  unfold formP at h
  simp only [Bool.and_eq_true, Bool.not_eq_true'] at h
  obtain ⟨h0, h1, h2⟩ := h
  have h0 : s ≠ [] := by rintro rfl; simp at h0
  obtain ⟨a1, a2⟩ := all_name.1 h2
  obtain ⟨b1, b2⟩ := (first_of (at_zero h0 h2)).1 h1
  exact ⟨h0, b1, b2, (run_all s).2 a1, a2⟩
end ScP
set_option maxRecDepth 100000 in
set_option maxHeartbeats 2000000 in
theorem run_long {f : FuncId} {p : UInt8 → Bool} (HF : PredB f p) (s : List UInt8) (w : World) (hs : s.length ≤ 2000000) : Calls Tryz.prog 71 #[.string (bstr s), .func (.func f) #[] #[]] w fun e w' => e = .returned (.int .i64 (ScP.runP p s : Nat)) ∧ Below w.heap.size w w' := by
  refine enter env_ok Tryz.func71 rfl Tryz.results71 Tryz.ntmps71 [] [] [.str s, .fn f []] (by simp [SV.oks, SV.ok]) (Nat.le_of_ble_eq_true rfl) w _ 1000 ?_
  repeat' (first | ((with_reducible first | show wpS _ _ _ _ | show putD _ _ _ _ | show putW _ _ _ _ | show splitG _ _ _ | show wpQ _ _ _ _ _ _ | show wpD _ _ _ _ _ _ _ | show wpX _ _ _ _ _ _ | show expX _ _ _ _ _ _ | show stepX _ _ _ _); conv => whnf) | ((with_reducible show RetN _ _ _); refine retB fun β => ?_) | ((with_reducible show _ ∧ _); first | (apply And.intro; (· intro h; exfalso; first | omega | (revert h; decide)); intro _) | (apply And.intro; rotate_left; (· intro h; exfalso; first | omega | (revert h; decide)); intro _) | (refine ⟨fun _ => ?_, fun _ => ?_⟩) | (apply And.intro; · kernel_rfl) | (apply And.intro; · (show inK _ _; unfold inK; omega)) | (apply And.intro; · (show (_ : Int) ≤ 9223372036854775807; (try simp only [List.length_append, List.length_drop, List.length_take, List.length_cons, List.length_nil]); omega))) | ((with_reducible show bothX _ _); refine bothI ?_ ?_; conv => whnf) | (with_reducible exact trivial) | ((with_reducible show CallN _ _ _ _ _ _ _ _); refine call_of env_ok rfl 1000 ?_) | ((with_reducible show XopN _ _ _ _ _ _); refine xop_of env_ok rfl 1000 ?_) | ((with_reducible show CallX _ _ _ _ _ _); first | fail) | ((with_reducible show OpX _ _ _ _); first | fail) | ((with_reducible show ∃ _ : SV, _); first | fail) | ((with_reducible show ∃ _, _); first | fail))
  refine loop env_ok rfl (T := {n : Nat // n ≤ s.length ∧ ScP.runP p s = n + ScP.runP p (s.drop n)}) (fun t => ⟨[(0, .str s), (1, .fn f []), (5, .int .i64 (t.1 : Nat))], [], 0, 20⟩) (fun t => s.length - t.1) ⟨0, Nat.zero_le _, by simp⟩ 1000 [] [] (fun _ => Nat.zero_le _) (by ((with_reducible show wk _ _); repeat' (first | exact trivial | exact eqSV_refl _ | (refine eqI ?_) | (refine eqS ?_) | (with_reducible exact rfl) | apply And.intro | exact Nat.zero_lt_one | exact Nat.le_of_ble_eq_true rfl | (with_reducible assumption) | ((show (_ : Int) = _); (try dsimp only); omega) | ((show eqSV _ _); simp [eqSV, isB, bval, *]; done) | rfl))) (fun t I hI => ?_)
  obtain ⟨n, hn, hr⟩ := t
  dsimp only
  repeat' (first | ((with_reducible first | show wpS _ _ _ _ | show putD _ _ _ _ | show putW _ _ _ _ | show splitG _ _ _ | show wpQ _ _ _ _ _ _ | show wpD _ _ _ _ _ _ _ | show wpX _ _ _ _ _ _ | show expX _ _ _ _ _ _ | show stepX _ _ _ _); conv => whnf) | ((with_reducible show RetN _ _ _); refine retB fun β => ?_) | ((with_reducible show _ ∧ _); first | (apply And.intro; (· intro h; exfalso; first | omega | (revert h; decide)); intro _) | (apply And.intro; rotate_left; (· intro h; exfalso; first | omega | (revert h; decide)); intro _) | (refine ⟨fun _ => ?_, fun _ => ?_⟩) | (apply And.intro; · kernel_rfl) | (apply And.intro; · (show inK _ _; unfold inK; omega)) | (apply And.intro; · (show (_ : Int) ≤ 9223372036854775807; (try simp only [List.length_append, List.length_drop, List.length_take, List.length_cons, List.length_nil]); omega))) | ((with_reducible show bothX _ _); refine bothI ?_ ?_; conv => whnf) | (with_reducible exact trivial) | ((with_reducible show CallN _ _ _ _ _ _ _ _); refine call_of env_ok rfl 1000 ?_) | ((with_reducible show XopN _ _ _ _ _ _); refine xop_of env_ok rfl 1000 ?_) | ((with_reducible show CallX _ _ _ _ _ _); first | (refine callX (.bool (p (s.getD n 0))) HF.enters rfl trivial (fun β w hm => HF.run _ w) ?_)) | ((with_reducible show OpX _ _ _ _); first | fail) | ((with_reducible show ∃ _ : SV, _); first | fail) | ((with_reducible show ∃ _, _); first | (refine ⟨n, rfl, by omega, ?_⟩)))
  · refine hI _ ⟨n + 1, by omega, by rw [hr, ScP.run_inn (by omega) ‹_›]; omega⟩ (by dsimp only; omega) (by ((with_reducible show wk _ _); repeat' (first | exact trivial | exact eqSV_refl _ | (refine eqI ?_) | (refine eqS ?_) | (with_reducible exact rfl) | apply And.intro | exact Nat.zero_lt_one | exact Nat.le_of_ble_eq_true rfl | (with_reducible assumption) | ((show (_ : Int) = _); (try dsimp only); omega) | ((show eqSV _ _); simp [eqSV, isB, bval, *]; done) | rfl)))
  · rw [ScP.run_out (by omega) ‹_›] at hr; rw [hr]; rfl
  · rw [ScP.run_end (by omega)] at hr; rw [hr]; rfl
set_option maxRecDepth 100000 in
set_option maxHeartbeats 2000000 in
theorem all_long {f : FuncId} {p : UInt8 → Bool} (HF : PredB f p) (s : List UInt8) (w : World) (hs : s.length ≤ 2000000) : Calls Tryz.prog 59 #[.string (bstr s), .func (.func f) #[] #[]] w fun e w' => e = .returned (.bool (s.all p)) ∧ Below w.heap.size w w' := by
  refine enter env_ok Tryz.func59 rfl Tryz.results59 Tryz.ntmps59 [] [] [.str s, .fn f []] (by simp [SV.oks, SV.ok]) (Nat.le_of_ble_eq_true rfl) w _ 1000 ?_
  repeat' (first | ((with_reducible first | show wpS _ _ _ _ | show putD _ _ _ _ | show putW _ _ _ _ | show splitG _ _ _ | show wpQ _ _ _ _ _ _ | show wpD _ _ _ _ _ _ _ | show wpX _ _ _ _ _ _ | show expX _ _ _ _ _ _ | show stepX _ _ _ _); conv => whnf) | ((with_reducible show RetN _ _ _); refine retB fun β => ?_) | ((with_reducible show _ ∧ _); first | (apply And.intro; (· intro h; exfalso; first | omega | (revert h; decide)); intro _) | (apply And.intro; rotate_left; (· intro h; exfalso; first | omega | (revert h; decide)); intro _) | (refine ⟨fun _ => ?_, fun _ => ?_⟩) | (apply And.intro; · kernel_rfl) | (apply And.intro; · (show inK _ _; unfold inK; omega)) | (apply And.intro; · (show (_ : Int) ≤ 9223372036854775807; (try simp only [List.length_append, List.length_drop, List.length_take, List.length_cons, List.length_nil]); omega))) | ((with_reducible show bothX _ _); refine bothI ?_ ?_; conv => whnf) | (with_reducible exact trivial) | ((with_reducible show CallN _ _ _ _ _ _ _ _); refine call_of env_ok rfl 1000 ?_) | ((with_reducible show XopN _ _ _ _ _ _); refine xop_of env_ok rfl 1000 ?_) | ((with_reducible show CallX _ _ _ _ _ _); first | fail) | ((with_reducible show OpX _ _ _ _); first | fail) | ((with_reducible show ∃ _ : SV, _); first | fail) | ((with_reducible show ∃ _, _); first | fail))
  refine loop env_ok rfl (T := {n : Nat // n ≤ s.length ∧ s.all p = (s.drop n).all p}) (fun t => ⟨[(0, .str s), (1, .fn f []), (7, .int .i64 (s.length : Nat)), (8, .int .i64 (t.1 : Nat))], [], 0, 18⟩) (fun t => s.length - t.1) ⟨0, Nat.zero_le _, by simp⟩ 1000 [] [] (fun _ => Nat.zero_le _) (by ((with_reducible show wk _ _); repeat' (first | exact trivial | exact eqSV_refl _ | (refine eqI ?_) | (refine eqS ?_) | (with_reducible exact rfl) | apply And.intro | exact Nat.zero_lt_one | exact Nat.le_of_ble_eq_true rfl | (with_reducible assumption) | ((show (_ : Int) = _); (try dsimp only); omega) | ((show eqSV _ _); simp [eqSV, isB, bval, *]; done) | rfl))) (fun t I hI => ?_)
  obtain ⟨n, hn, hr⟩ := t
  dsimp only
  have hd : n < s.length → s.drop n = s.getD n 0 :: s.drop (n + 1) := fun h => by rw [List.drop_eq_getElem_cons h, List.getD_eq_getElem?_getD, List.getElem?_eq_getElem h]; rfl
  repeat' (first | ((with_reducible first | show wpS _ _ _ _ | show putD _ _ _ _ | show putW _ _ _ _ | show splitG _ _ _ | show wpQ _ _ _ _ _ _ | show wpD _ _ _ _ _ _ _ | show wpX _ _ _ _ _ _ | show expX _ _ _ _ _ _ | show stepX _ _ _ _); conv => whnf) | ((with_reducible show RetN _ _ _); refine retB fun β => ?_) | ((with_reducible show _ ∧ _); first | (apply And.intro; (· intro h; exfalso; first | omega | (revert h; decide)); intro _) | (apply And.intro; rotate_left; (· intro h; exfalso; first | omega | (revert h; decide)); intro _) | (refine ⟨fun _ => ?_, fun _ => ?_⟩) | (apply And.intro; · kernel_rfl) | (apply And.intro; · (show inK _ _; unfold inK; omega)) | (apply And.intro; · (show (_ : Int) ≤ 9223372036854775807; (try simp only [List.length_append, List.length_drop, List.length_take, List.length_cons, List.length_nil]); omega))) | ((with_reducible show bothX _ _); refine bothI ?_ ?_; conv => whnf) | (with_reducible exact trivial) | ((with_reducible show CallN _ _ _ _ _ _ _ _); refine call_of env_ok rfl 1000 ?_) | ((with_reducible show XopN _ _ _ _ _ _); refine xop_of env_ok rfl 1000 ?_) | ((with_reducible show CallX _ _ _ _ _ _); first | (refine callX (.bool (p (s.getD n 0))) HF.enters rfl trivial (fun β w hm => HF.run _ w) ?_)) | ((with_reducible show OpX _ _ _ _); first | fail) | ((with_reducible show ∃ _ : SV, _); first | fail) | ((with_reducible show ∃ _, _); first | (refine ⟨n, rfl, by omega, ?_⟩)))
  · show Value.bool false = _
    have hp : p (s.getD n 0) = false := by simpa using ‹(!p (s.getD n 0)) = true›
    rw [hr, hd (by omega), List.all_cons, hp]; rfl
  · have hp : p (s.getD n 0) = true := by simpa using ‹(!p (s.getD n 0)) = false›
    refine hI _ ⟨n + 1, by omega, by rw [hr, hd (by omega), List.all_cons, hp]; rfl⟩ (by dsimp only; omega) (by ((with_reducible show wk _ _); repeat' (first | exact trivial | exact eqSV_refl _ | (refine eqI ?_) | (refine eqS ?_) | (with_reducible exact rfl) | apply And.intro | exact Nat.zero_lt_one | exact Nat.le_of_ble_eq_true rfl | (with_reducible assumption) | ((show (_ : Int) = _); (try dsimp only); omega) | ((show eqSV _ _); simp [eqSV, isB, bval, *]; done) | rfl)))
  · show Value.bool true = _
    rw [hr, List.drop_eq_nil_of_le (by omega)]; rfl
theorem rName : PredB 68 ScP.nameC := ⟨by kernel_rfl, fun c w => by
  have hc := c.toNat_lt
  refine enter env_ok Tryz.func68 rfl Tryz.results68 Tryz.ntmps68 [] [] [.int .u8 (c.toNat : Int)] (by simp [SV.oks, SV.ok]) (Nat.le_of_ble_eq_true rfl) w _ 1000 ?_
  repeat' (first | ((with_reducible first | show wpS _ _ _ _ | show putD _ _ _ _ | show putW _ _ _ _ | show splitG _ _ _ | show wpQ _ _ _ _ _ _ | show wpD _ _ _ _ _ _ _ | show wpX _ _ _ _ _ _ | show expX _ _ _ _ _ _ | show stepX _ _ _ _); conv => whnf) | ((with_reducible show RetN _ _ _); refine retB fun β => ?_) | ((with_reducible show _ ∧ _); first | (apply And.intro; (· intro h; exfalso; first | omega | (revert h; decide)); intro _) | (apply And.intro; rotate_left; (· intro h; exfalso; first | omega | (revert h; decide)); intro _) | (refine ⟨fun _ => ?_, fun _ => ?_⟩) | (apply And.intro; · kernel_rfl) | (apply And.intro; · (show inK _ _; unfold inK; omega)) | (apply And.intro; · (show (_ : Int) ≤ 9223372036854775807; (try simp only [List.length_append, List.length_drop, List.length_take, List.length_cons, List.length_nil]); omega))) | ((with_reducible show bothX _ _); refine bothI ?_ ?_; conv => whnf) | (with_reducible exact trivial) | ((with_reducible show CallN _ _ _ _ _ _ _ _); refine call_of env_ok rfl 1000 ?_) | ((with_reducible show XopN _ _ _ _ _ _); refine xop_of env_ok rfl 1000 ?_) | ((with_reducible show CallX _ _ _ _ _ _); first | (refine callX (.bool (RfP.isLetter c)) (by kernel_rfl) rfl (trivial) (fun β w hm => rLetter.run c w) ?_) | (refine callX (.bool (RfP.isDigit c)) (by kernel_rfl) rfl (trivial) (fun β w hm => rDigit.run c w) ?_)) | ((with_reducible show OpX _ _ _ _); first | fail) | ((with_reducible show ∃ _ : SV, _); first | fail) | ((with_reducible show ∃ _, _); first | fail))
  all_goals (simp_all [SV.den, ScP.nameC, bI9, bI32, bI33, bI34, bI35, bI36, bI39, bI40, bI43, bI45, bI46, bI48, bI57, bI58, bI65, bI69, bI91, bI93, bI95, bI97, bI101]; try (rw [Bool.eq_iff_iff]; simp_all))⟩
set_option maxRecDepth 100000 in
theorem named_any (s : List UInt8) (w : World) (hs : s.length ≤ 2000000) : Calls Tryz.prog 61 #[.string (bstr s)] w fun e w' => e = .returned (.bool (ScP.namedP s)) ∧ Below w.heap.size w w' := by
  refine enter env_ok Tryz.func61 rfl Tryz.results61 Tryz.ntmps61 [] [] [.str s] (by simp [SV.oks, SV.ok]) (Nat.le_of_ble_eq_true rfl) w _ 1000 ?_
  repeat' (first | ((with_reducible first | show wpS _ _ _ _ | show putD _ _ _ _ | show putW _ _ _ _ | show splitG _ _ _ | show wpQ _ _ _ _ _ _ | show wpD _ _ _ _ _ _ _ | show wpX _ _ _ _ _ _ | show expX _ _ _ _ _ _ | show stepX _ _ _ _); conv => whnf) | ((with_reducible show RetN _ _ _); refine retB fun β => ?_) | ((with_reducible show _ ∧ _); first | (apply And.intro; (· intro h; exfalso; first | omega | (revert h; decide)); intro _) | (apply And.intro; rotate_left; (· intro h; exfalso; first | omega | (revert h; decide)); intro _) | (refine ⟨fun _ => ?_, fun _ => ?_⟩) | (apply And.intro; · kernel_rfl) | (apply And.intro; · (show inK _ _; unfold inK; omega)) | (apply And.intro; · (show (_ : Int) ≤ 9223372036854775807; (try simp only [List.length_append, List.length_drop, List.length_take, List.length_cons, List.length_nil]); omega))) | ((with_reducible show bothX _ _); refine bothI ?_ ?_; conv => whnf) | (with_reducible exact trivial) | ((with_reducible show CallN _ _ _ _ _ _ _ _); refine call_of env_ok rfl 1000 ?_) | ((with_reducible show XopN _ _ _ _ _ _); refine xop_of env_ok rfl 1000 ?_) | ((with_reducible show CallX _ _ _ _ _ _); first | (refine callX (.bool (RfP.isDigit (s.getD 0 0))) (by kernel_rfl) rfl (trivial) (fun β w hm => fdigit.run _ w) ?_) | (refine callX (.int .i64 (ScP.runP ScP.wordlyC s : Nat)) (by kernel_rfl) rfl (trivial) (fun β w hm => run_long fwordly s w hs) ?_) | (refine callX (.bool (s.contains 36)) (by kernel_rfl) rfl (trivial) (fun β w hm => contains_any s w) ?_) | (refine callX (.bool (ScP.isRefP s)) (by kernel_rfl) rfl (trivial) (fun β w hm => fisRef_any s w) ?_)) | ((with_reducible show OpX _ _ _ _); first | fail) | ((with_reducible show ∃ _ : SV, _); first | fail) | ((with_reducible show ∃ _, _); first | (refine ⟨0, rfl, by (have : s ≠ [] := by assumption); exact List.length_pos_iff.2 this, ?_⟩)))
  · show Value.bool (!ScP.isRefP s) = Value.bool (ScP.formP s && !ScP.isRefP s)
    have h2 : ¬ ((s.getD 0 0).toNat : Int) = 46 := by assumption
    rw [ScP.form_yes (by assumption) (by simpa using ‹(!RfP.isDigit (s.getD 0 0)) = true›) (fun h => h2 (by rw [h]; rfl)) (by omega) (by simpa using ‹(!s.contains 36) = true›)]; rfl
  all_goals
    show Value.bool false = Value.bool (ScP.formP s && !ScP.isRefP s)
    have hf : ScP.formP s = false := by
      rw [Bool.eq_false_iff]
      intro h
      obtain ⟨h0, h1, h2, h3, h4⟩ := ScP.form_no h
      have h2' : ¬ ((s.getD 0 0).toNat : Int) = 46 := fun e => h2 (by apply UInt8.toNat_inj.1; have : (46 : UInt8).toNat = 46 := rfl; omega)
      first | omega | simp_all
    rw [hf]; rfl
set_option maxRecDepth 100000 in
theorem nameForm_any (s : List UInt8) (w : World) (hs : s.length ≤ 2000000) : Calls Tryz.prog 32 #[.string (bstr s)] w fun e w' => e = .returned (.bool (ScP.formP s)) ∧ Below w.heap.size w w' := by
  refine enter env_ok Tryz.func32 rfl Tryz.results32 Tryz.ntmps32 [] [] [.str s] (by simp [SV.oks, SV.ok]) (Nat.le_of_ble_eq_true rfl) w _ 1000 ?_
  repeat' (first | ((with_reducible first | show wpS _ _ _ _ | show putD _ _ _ _ | show putW _ _ _ _ | show splitG _ _ _ | show wpQ _ _ _ _ _ _ | show wpD _ _ _ _ _ _ _ | show wpX _ _ _ _ _ _ | show expX _ _ _ _ _ _ | show stepX _ _ _ _); conv => whnf) | ((with_reducible show RetN _ _ _); refine retB fun β => ?_) | ((with_reducible show _ ∧ _); first | (apply And.intro; (· intro h; exfalso; first | omega | (revert h; decide)); intro _) | (apply And.intro; rotate_left; (· intro h; exfalso; first | omega | (revert h; decide)); intro _) | (refine ⟨fun _ => ?_, fun _ => ?_⟩) | (apply And.intro; · kernel_rfl) | (apply And.intro; · (show inK _ _; unfold inK; omega)) | (apply And.intro; · (show (_ : Int) ≤ 9223372036854775807; (try simp only [List.length_append, List.length_drop, List.length_take, List.length_cons, List.length_nil]); omega))) | ((with_reducible show bothX _ _); refine bothI ?_ ?_; conv => whnf) | (with_reducible exact trivial) | ((with_reducible show CallN _ _ _ _ _ _ _ _); refine call_of env_ok rfl 1000 ?_) | ((with_reducible show XopN _ _ _ _ _ _); refine xop_of env_ok rfl 1000 ?_) | ((with_reducible show CallX _ _ _ _ _ _); first | (refine callX (.bool (RfP.isLetter (s.getD 0 0))) (by kernel_rfl) rfl (trivial) (fun β w hm => rLetter.run _ w) ?_) | (refine callX (.bool (s.all ScP.nameC)) (by kernel_rfl) rfl (trivial) (fun β w hm => all_long rName s w hs) ?_)) | ((with_reducible show OpX _ _ _ _); first | fail) | ((with_reducible show ∃ _ : SV, _); first | fail) | ((with_reducible show ∃ _, _); first | (refine ⟨0, rfl, by (have : s ≠ [] := by assumption); exact List.length_pos_iff.2 this, ?_⟩)))
  · have : s = [] := by assumption
    subst this; rfl
  all_goals (have h0 : s ≠ [] := by assumption)
  · show Value.bool false = _
    have h1 : RfP.isLetter (s.getD 0 0) = false := by simpa using ‹(!RfP.isLetter (s.getD 0 0)) = true›
    have h2 : ¬ s.getD 0 0 = 95 := fun h => absurd (by rw [h]; rfl) ‹¬ ((s.getD 0 0).toNat : Int) = 95›
    have hf : ScP.firstC (s.getD 0 0) = false := by unfold ScP.firstC; rw [h1, Bool.false_or]; exact beq_eq_false_iff_ne.2 h2
    unfold ScP.formP; rw [hf]; simp
  · show Value.bool _ = _
    have h2 : s.getD 0 0 = 95 := by
      have h3 : ((s.getD 0 0).toNat : Int) = 95 := Decidable.not_not.1 (by assumption)
      apply UInt8.toNat_inj.1; have : (95 : UInt8).toNat = 95 := rfl; omega
    have h4 : s.isEmpty = false := by cases s <;> simp_all
    have hf : ScP.firstC (s.getD 0 0) = true := by unfold ScP.firstC; rw [h2]; rfl
    unfold ScP.formP; rw [hf, h4]; rfl
  · show Value.bool _ = _
    have h1 : RfP.isLetter (s.getD 0 0) = true := by simpa using ‹(!RfP.isLetter (s.getD 0 0)) = false›
    have h4 : s.isEmpty = false := by cases s <;> simp_all
    have hf : ScP.firstC (s.getD 0 0) = true := by unfold ScP.firstC; rw [h1]; rfl
    unfold ScP.formP; rw [hf, h4]; rfl
end Go.Proofs.YtmodjglbjempkaaGreatDoor
namespace Go.Proofs.YtmodjglbjempkaaGreatDoor
open Go.RowKit
open Sym
attribute [local irreducible] Calls Sym.AggEq
theorem cellK {w w' : World} {a : Addr} {v : Value} (h : w.cell? a = some v) (hb : Below w.heap.size w w') : w'.cell? a = some v := by
  have := World.block_lt_of_cell? w _ h
  rw [World.cell?_of_block (w := w) (hb.block _ this)]; exact h
theorem memK {base : Nat} {w0 : Base} {rows : List (Nat × Bool × SRow)} {nx : Nat} {β : Nat → Nat} {w : World} (hm : Mem base w0 rows nx β w) (i j : Nat) {o : Bool} {T : TypeId} {cs : List SV} (hi : get rows i = some (o, .cells T cs)) {v : Value} (hv : (SV.dens β cs)[j]? = some v) : w.cell? ⟨β i, j, none⟩ = some v := by
  have q : Row w (β i) T (SV.dens β cs).toArray := (hm.row i _ _ hi).1
  rw [q.cell]; simpa using hv
namespace ScP
theorem low_up {c : UInt8} (h1 : (65 : Int) ≤ c.toNat) (h2 : (c.toNat : Int) ≤ 90) : [Value.int .u8 ((c.toNat : Int) + 32)] = bvals [lowC c] := by
  have := lowC_nat c
  rw [if_pos (by omega)] at this
  simp [bvals, this]
theorem low_id {c : UInt8} (h : ¬ ((65 : Int) ≤ c.toNat ∧ (c.toNat : Int) ≤ 90)) : [Value.int .u8 (c.toNat : Int)] = bvals [lowC c] := by
  have := lowC_nat c
  rw [if_neg (by omega)] at this
  simp [bvals, this]
theorem low_pick {c : UInt8} {v : Int} (h : ((65 : Int) ≤ c.toNat ∧ (c.toNat : Int) ≤ 90 ∧ v = (c.toNat : Int) + 32) ∨ (¬ ((65 : Int) ≤ c.toNat ∧ (c.toNat : Int) ≤ 90) ∧ v = (c.toNat : Int))) : [Value.int .u8 v] = bvals [lowC c] := by
  rcases h with ⟨h1, h2, rfl⟩ | ⟨h1, rfl⟩
  · exact low_up h1 h2
  · exact low_id h1
theorem low_len (s : Str) : (lowP s).length = s.length := by simp [lowP]
def renG (fr nw : Str) (x : RfP.Ref) : RfP.Ref := if x.sh = fr then { x with sh := nw } else x
/-- what Rename answers -/
def renS (s fr nw : Str) : Str × Int := if fr = [] ∨ nw = [] then ([], 1) else if RfP.nameP nw ≠ 0 then ([], RfP.nameP nw) else (rewP (renG fr nw) s, 0)
end ScP
namespace RfP
def sheetR (nw : Str) : Ref := ⟨nw, 0, 0, 0, 0, 0, false, false, false, false⟩
theorem check_sheet (nw : Str) : checkP (sheetR nw) = nameP nw := by
  have e1 : formP (sheetR nw) = true := by simp [formP, sheetR, thirdP, fourthP]
  have e2 : permP 0 = true := by decide
  unfold checkP
  rw [if_neg (by simp [sheetR]), e1]
  simp [sheetR, e2]
  intro h; exact h.symm
theorem rename_valid {fr nw : Str} {x : Ref} (hf : fr ≠ []) (ht : nameP nw = 0) (h : checkP x = 0) : checkP (ScP.renG fr nw x) = 0 := by
  unfold ScP.renG
  split
  · rename_i hs
    obtain ⟨hk, hform, hin, hord⟩ := check_ok x h
    have hne : x.sh ≠ [] := by rw [hs]; exact hf
    have hk4 : x.k ≠ 4 := by
      intro e
      unfold formP at hform
      have : x.sh.isEmpty = false := by cases hx : x.sh <;> simp_all
      simp [e, this] at hform
    have e1 : formP { x with sh := nw } = true := by
      unfold formP at hform ⊢
      simp only [firstP, secondP, thirdP, fourthP] at hform ⊢
      have hb : (x.k == 4) = false := by simpa using hk4
      rw [hb] at hform ⊢
      simpa using hform
    unfold insideP at hin
    unfold checkP
    rw [if_neg (by dsimp only; omega), if_neg (by simpa using ht), if_neg (by rw [e1]; simp), if_neg (by rw [hin]; simp), if_neg (by dsimp only; intro hh; have := hord hh.1; omega)]
  · exact h
end RfP
set_option maxRecDepth 100000 in
set_option maxHeartbeats 2000000 in
theorem lower_any (s : List UInt8) (w : World) (hs : s.length ≤ 2000000) : Calls Tryz.prog 34 #[.string (bstr s)] w fun e w' => e = .returned (.string (bstr (ScP.lowP s))) ∧ Below w.heap.size w w' := by
  refine enter env_ok Tryz.func34 rfl Tryz.results34 Tryz.ntmps34 [] [] [.str s] (by simp [SV.oks, SV.ok]) (Nat.le_of_ble_eq_true rfl) w _ 1000 ?_
  repeat' (first | ((with_reducible first | show wpS _ _ _ _ | show putD _ _ _ _ | show putW _ _ _ _ | show splitG _ _ _ | show wpQ _ _ _ _ _ _ | show wpD _ _ _ _ _ _ _ | show wpX _ _ _ _ _ _ | show expX _ _ _ _ _ _ | show stepX _ _ _ _); conv => whnf) | ((with_reducible show RetN _ _ _); refine retB fun β => ?_) | ((with_reducible show _ ∧ _); first | (apply And.intro; (· intro h; exfalso; first | omega | (revert h; decide)); intro _) | (apply And.intro; rotate_left; (· intro h; exfalso; first | omega | (revert h; decide)); intro _) | (refine ⟨fun _ => ?_, fun _ => ?_⟩) | (apply And.intro; · kernel_rfl) | (apply And.intro; · (show inK _ _; unfold inK; omega)) | (apply And.intro; · (show (_ : Int) ≤ 9223372036854775807; (try simp only [List.length_append, List.length_drop, List.length_take, List.length_cons, List.length_nil]); omega))) | ((with_reducible show bothX _ _); refine bothI ?_ ?_; conv => whnf) | (with_reducible exact trivial) | ((with_reducible show CallN _ _ _ _ _ _ _ _); refine call_of env_ok rfl 1000 ?_) | ((with_reducible show XopN _ _ _ _ _ _); refine xop_of env_ok rfl 1000 ?_) | ((with_reducible show CallX _ _ _ _ _ _); first | fail) | ((with_reducible show OpX _ _ _ _); first | fail) | ((with_reducible show ∃ _ : SV, _); first | fail) | ((with_reducible show ∃ _, _); first | fail))
  refine loop env_ok rfl (T := {r : Nat × List UInt8 // r.1 ≤ s.length ∧ r.2 = ScP.lowP (s.take r.1)}) (fun t => ⟨[(0, .str s), (3, .str t.1.2), (7, .int .i64 (s.length : Nat)), (8, .int .i64 (t.1.1 : Nat))], [], 0, 29⟩) (fun t => s.length - t.1.1) ⟨(0, []), Nat.zero_le _, rfl⟩ 1000 [] [] (fun _ => Nat.zero_le _) (by ((with_reducible show wk _ _); repeat' (first | exact trivial | exact eqSV_refl _ | (refine eqI ?_) | (refine eqS ?_) | (with_reducible exact rfl) | apply And.intro | exact Nat.zero_lt_one | exact Nat.le_of_ble_eq_true rfl | (with_reducible assumption) | ((show (_ : Int) = _); (try dsimp only); omega) | ((show eqSV _ _); simp [eqSV, isB, bval, *]; done) | rfl))) (fun t I hI => ?_)
  obtain ⟨⟨n, out⟩, hn, hr⟩ := t
  dsimp only at hn hr ⊢
  have hl : out.length ≤ 2000000 := by rw [hr, ScP.low_len]; simp; omega
  have h1 := (s.getD n 0).toNat_lt
  repeat' (first | ((with_reducible first | show wpS _ _ _ _ | show putD _ _ _ _ | show putW _ _ _ _ | show splitG _ _ _ | show wpQ _ _ _ _ _ _ | show wpD _ _ _ _ _ _ _ | show wpX _ _ _ _ _ _ | show expX _ _ _ _ _ _ | show stepX _ _ _ _); conv => whnf) | ((with_reducible show RetN _ _ _); refine retB fun β => ?_) | ((with_reducible show _ ∧ _); first | (apply And.intro; (· intro h; exfalso; first | omega | (revert h; decide)); intro _) | (apply And.intro; rotate_left; (· intro h; exfalso; first | omega | (revert h; decide)); intro _) | (refine ⟨fun _ => ?_, fun _ => ?_⟩) | (apply And.intro; · kernel_rfl) | (apply And.intro; · (show inK _ _; unfold inK; omega)) | (apply And.intro; · (show (_ : Int) ≤ 9223372036854775807; (try simp only [List.length_append, List.length_drop, List.length_take, List.length_cons, List.length_nil]); omega))) | ((with_reducible show bothX _ _); refine bothI ?_ ?_; conv => whnf) | (with_reducible exact trivial) | ((with_reducible show CallN _ _ _ _ _ _ _ _); refine call_of env_ok rfl 1000 ?_) | ((with_reducible show XopN _ _ _ _ _ _); refine xop_of env_ok rfl 1000 ?_) | ((with_reducible show CallX _ _ _ _ _ _); first | fail) | ((with_reducible show OpX _ _ _ _); first | (refine opx_one rfl rfl Tryz.underlying83 (fun w => Tryz.sizeOf5 w) (fun w => Tryz.zeroValue5 w) rfl (fun g => ?_))) | ((with_reducible show ∃ _ : SV, _); first | (refine ⟨_, ?ok, x_bytesStr 0 [ScP.lowC (s.getD n 0)] Tryz.underlying83 Tryz.underlying5 Tryz.underlying9 rfl (ScP.low_pick (by omega)), ?_⟩; (case ok => exact fun _ _ => trivial))) | ((with_reducible show ∃ _, _); first | (refine ⟨n, rfl, by omega, ?_⟩)))
  · refine hI _ ⟨(n + 1, out ++ [ScP.lowC (s.getD n 0)]), by dsimp only; omega, by dsimp only; rw [ScP.low_take (by omega), hr]⟩ (by dsimp only; omega) (by ((with_reducible show wk _ _); repeat' (first | exact trivial | exact eqSV_refl _ | (refine eqI ?_) | (refine eqS ?_) | (with_reducible exact rfl) | apply And.intro | exact Nat.zero_lt_one | exact Nat.le_of_ble_eq_true rfl | (with_reducible assumption) | ((show (_ : Int) = _); (try dsimp only); omega) | ((show eqSV _ _); simp [eqSV, isB, bval, *]; done) | rfl)))
  · refine hI _ ⟨(n + 1, out ++ [ScP.lowC (s.getD n 0)]), by dsimp only; omega, by dsimp only; rw [ScP.low_take (by omega), hr]⟩ (by dsimp only; omega) (by ((with_reducible show wk _ _); repeat' (first | exact trivial | exact eqSV_refl _ | (refine eqI ?_) | (refine eqS ?_) | (with_reducible exact rfl) | apply And.intro | exact Nat.zero_lt_one | exact Nat.le_of_ble_eq_true rfl | (with_reducible assumption) | ((show (_ : Int) = _); (try dsimp only); omega) | ((show eqSV _ _); simp [eqSV, isB, bval, *]; done) | rfl)))
  · refine hI _ ⟨(n + 1, out ++ [ScP.lowC (s.getD n 0)]), by dsimp only; omega, by dsimp only; rw [ScP.low_take (by omega), hr]⟩ (by dsimp only; omega) (by ((with_reducible show wk _ _); repeat' (first | exact trivial | exact eqSV_refl _ | (refine eqI ?_) | (refine eqS ?_) | (with_reducible exact rfl) | apply And.intro | exact Nat.zero_lt_one | exact Nat.le_of_ble_eq_true rfl | (with_reducible assumption) | ((show (_ : Int) = _); (try dsimp only); omega) | ((show eqSV _ _); simp [eqSV, isB, bval, *]; done) | rfl)))
  · rw [hr, List.take_of_length_le (by omega)]; rfl
set_option maxRecDepth 100000 in
theorem rename1_any (x : RfP.Ref) (fr nw : List UInt8) (a1 a2 : Addr) (w : World) (h1 : w.cell? a1 = some (.string (bstr fr))) (h2 : w.cell? a2 = some (.string (bstr nw))) :
    Calls Tryz.prog 58 #[.agg (refC x), .pointer (some a1), .pointer (some a2)] w fun e w' => e = .returned (.agg (refC (ScP.renG fr nw x))) ∧ Below w.heap.size w w' := by
  have k1 : ∀ w', Below w.heap.size w w' → w'.cell? a1 = some (.string (bstr fr)) := fun w' hb => cellK h1 hb
  have k2 : ∀ w', Below w.heap.size w w' → w'.cell? a2 = some (.string (bstr nw)) := fun w' hb => cellK h2 hb
  unfold ScP.renG
  refine enter env_ok Tryz.func58 rfl Tryz.results58 Tryz.ntmps58 [] [] [rS x, .any (.pointer (some a1)), .any (.pointer (some a2))] ⟨rS_ok x 0, rfl, rfl, trivial⟩ (Nat.le_of_ble_eq_true rfl) w _ 1000 ?_
  repeat' (first | ((with_reducible first | show wpS _ _ _ _ | show putD _ _ _ _ | show putW _ _ _ _ | show splitG _ _ _ | show wpQ _ _ _ _ _ _ | show wpD _ _ _ _ _ _ _ | show wpX _ _ _ _ _ _ | show expX _ _ _ _ _ _ | show stepX _ _ _ _); conv => whnf) | ((with_reducible show RetN _ _ _); refine retB fun β => ?_) | ((with_reducible show _ ∧ _); first | (apply And.intro; (· intro h; exfalso; first | omega | (revert h; decide)); intro _) | (apply And.intro; rotate_left; (· intro h; exfalso; first | omega | (revert h; decide)); intro _) | (refine ⟨fun _ => ?_, fun _ => ?_⟩) | (apply And.intro; · kernel_rfl) | (apply And.intro; · (show inK _ _; unfold inK; omega)) | (apply And.intro; · (show (_ : Int) ≤ 9223372036854775807; (try simp only [List.length_append, List.length_drop, List.length_take, List.length_cons, List.length_nil]); omega))) | ((with_reducible show bothX _ _); refine bothI ?_ ?_; conv => whnf) | (with_reducible exact trivial) | ((with_reducible show CallN _ _ _ _ _ _ _ _); refine call_of env_ok rfl 1000 ?_) | ((with_reducible show XopN _ _ _ _ _ _); refine xop_of env_ok rfl 1000 ?_) | ((with_reducible show CallX _ _ _ _ _ _); first | fail) | ((with_reducible show OpX _ _ _ _); first | fail) | ((with_reducible show ∃ _ : SV, _); first | (refine ⟨.str fr, fun _ _ => trivial, x_load1 (a := a1) (fun w => Tryz.isAgg9 w) (fun w' hb β => k1 w' hb), ?_⟩) | (refine ⟨.str nw, fun _ _ => trivial, x_load1 (a := a2) (fun w => Tryz.isAgg9 w) (fun w' hb β => k2 w' hb), ?_⟩)) | ((with_reducible show ∃ _, _); first | fail))
  · rw [if_pos (by assumption)]; rfl
  · rw [if_neg (by assumption)]; rfl
set_option maxRecDepth 100000 in
theorem rrename1_any (x : RfP.Ref) (fr nw : List UInt8) (a1 a2 : Addr) (w : World) (h1 : w.cell? a1 = some (.string (bstr fr))) (h2 : w.cell? a2 = some (.string (bstr nw))) :
    Calls Tryz.prog 30 #[.agg (refC x), .pointer (some a1), .pointer (some a2)] w fun e w' => e = .returned (.agg (refC (ScP.renG fr nw x))) ∧ Below w.heap.size w w' := by
  have k1 : ∀ w', Below w.heap.size w w' → w'.cell? a1 = some (.string (bstr fr)) := fun w' hb => cellK h1 hb
  have k2 : ∀ w', Below w.heap.size w w' → w'.cell? a2 = some (.string (bstr nw)) := fun w' hb => cellK h2 hb
  unfold ScP.renG
  refine enter env_ok Tryz.func30 rfl Tryz.results30 Tryz.ntmps30 [] [] [rS x, .any (.pointer (some a1)), .any (.pointer (some a2))] ⟨rS_ok x 0, rfl, rfl, trivial⟩ (Nat.le_of_ble_eq_true rfl) w _ 1000 ?_
  repeat' (first | ((with_reducible first | show wpS _ _ _ _ | show putD _ _ _ _ | show putW _ _ _ _ | show splitG _ _ _ | show wpQ _ _ _ _ _ _ | show wpD _ _ _ _ _ _ _ | show wpX _ _ _ _ _ _ | show expX _ _ _ _ _ _ | show stepX _ _ _ _); conv => whnf) | ((with_reducible show RetN _ _ _); refine retB fun β => ?_) | ((with_reducible show _ ∧ _); first | (apply And.intro; (· intro h; exfalso; first | omega | (revert h; decide)); intro _) | (apply And.intro; rotate_left; (· intro h; exfalso; first | omega | (revert h; decide)); intro _) | (refine ⟨fun _ => ?_, fun _ => ?_⟩) | (apply And.intro; · kernel_rfl) | (apply And.intro; · (show inK _ _; unfold inK; omega)) | (apply And.intro; · (show (_ : Int) ≤ 9223372036854775807; (try simp only [List.length_append, List.length_drop, List.length_take, List.length_cons, List.length_nil]); omega))) | ((with_reducible show bothX _ _); refine bothI ?_ ?_; conv => whnf) | (with_reducible exact trivial) | ((with_reducible show CallN _ _ _ _ _ _ _ _); refine call_of env_ok rfl 1000 ?_) | ((with_reducible show XopN _ _ _ _ _ _); refine xop_of env_ok rfl 1000 ?_) | ((with_reducible show CallX _ _ _ _ _ _); first | fail) | ((with_reducible show OpX _ _ _ _); first | fail) | ((with_reducible show ∃ _ : SV, _); first | (refine ⟨.str fr, fun _ _ => trivial, x_load1 (a := a1) (fun w => Tryz.isAgg9 w) (fun w' hb β => k1 w' hb), ?_⟩) | (refine ⟨.str nw, fun _ _ => trivial, x_load1 (a := a2) (fun w => Tryz.isAgg9 w) (fun w' hb β => k2 w' hb), ?_⟩)) | ((with_reducible show ∃ _, _); first | fail))
  · rw [if_pos (by assumption)]; rfl
  · rw [if_neg (by assumption)]; rfl
set_option maxRecDepth 100000 in
theorem sRename_any (s fr nw : List UInt8) (w : World) (hs : s.length ≤ 1000) (hw0 : 0 < w.heap.size) (hw : LW w) : Calls Tryz.prog 28 #[.string (bstr s), .string (bstr fr), .string (bstr nw)] w fun e w' => e = .returned (.tuple #[.string (bstr (ScP.renS s fr nw).1), .int .i64 (ScP.renS s fr nw).2]) ∧ Below w.heap.size w w' := by
  have HC := fun w => Check_any (RfP.sheetR nw) w
  rw [RfP.check_sheet] at HC
  unfold ScP.renS
  by_cases hf : fr = [] ∨ nw = []
  · rw [if_pos hf]
    refine enter env_ok Tryz.func28 rfl Tryz.results28 Tryz.ntmps28 [] [] [.str s, .str fr, .str nw] (by simp [SV.oks, SV.ok]) (Nat.le_of_ble_eq_true rfl) w _ 1000 ?_
    repeat' (first | ((with_reducible first | show wpS _ _ _ _ | show putD _ _ _ _ | show putW _ _ _ _ | show splitG _ _ _ | show wpQ _ _ _ _ _ _ | show wpD _ _ _ _ _ _ _ | show wpX _ _ _ _ _ _ | show expX _ _ _ _ _ _ | show stepX _ _ _ _); conv => whnf) | ((with_reducible show RetN _ _ _); refine retB fun β => ?_) | ((with_reducible show _ ∧ _); first | (apply And.intro; (· intro h; exfalso; first | omega | (revert h; decide)); intro _) | (apply And.intro; rotate_left; (· intro h; exfalso; first | omega | (revert h; decide)); intro _) | (refine ⟨fun _ => ?_, fun _ => ?_⟩) | (apply And.intro; · kernel_rfl) | (apply And.intro; · (show inK _ _; unfold inK; omega)) | (apply And.intro; · (show (_ : Int) ≤ 9223372036854775807; (try simp only [List.length_append, List.length_drop, List.length_take, List.length_cons, List.length_nil]); omega))) | ((with_reducible show bothX _ _); refine bothI ?_ ?_; conv => whnf) | (with_reducible exact trivial) | ((with_reducible show CallN _ _ _ _ _ _ _ _); refine call_of env_ok rfl 1000 ?_) | ((with_reducible show XopN _ _ _ _ _ _); refine xop_of env_ok rfl 1000 ?_) | ((with_reducible show CallX _ _ _ _ _ _); first | fail) | ((with_reducible show OpX _ _ _ _); first | fail) | ((with_reducible show ∃ _ : SV, _); first | fail) | ((with_reducible show ∃ _, _); first | fail))
    all_goals first | rfl | simp_all
  · rw [if_neg hf]
    simp only [not_or] at hf
    obtain ⟨hf1, hf2⟩ := hf
    by_cases hn : RfP.nameP nw = 0
    · rw [if_neg (by omega)]
      rw [hn] at HC
      refine enter env_ok Tryz.func28 rfl Tryz.results28 Tryz.ntmps28 [] [] [.str s, .str fr, .str nw] (by simp [SV.oks, SV.ok]) (Nat.le_of_ble_eq_true rfl) w _ 1000 ?_
      repeat' (first | ((with_reducible first | show wpS _ _ _ _ | show putD _ _ _ _ | show putW _ _ _ _ | show splitG _ _ _ | show wpQ _ _ _ _ _ _ | show wpD _ _ _ _ _ _ _ | show wpX _ _ _ _ _ _ | show expX _ _ _ _ _ _ | show stepX _ _ _ _); conv => whnf) | ((with_reducible show RetN _ _ _); refine retB fun β => ?_) | ((with_reducible show _ ∧ _); first | (apply And.intro; (· intro h; exfalso; first | omega | (revert h; decide)); intro _) | (apply And.intro; rotate_left; (· intro h; exfalso; first | omega | (revert h; decide)); intro _) | (refine ⟨fun _ => ?_, fun _ => ?_⟩) | (apply And.intro; · kernel_rfl) | (apply And.intro; · (show inK _ _; unfold inK; omega)) | (apply And.intro; · (show (_ : Int) ≤ 9223372036854775807; (try simp only [List.length_append, List.length_drop, List.length_take, List.length_cons, List.length_nil]); omega))) | ((with_reducible show bothX _ _); refine bothI ?_ ?_; conv => whnf) | (with_reducible exact trivial) | ((with_reducible show CallN _ _ _ _ _ _ _ _); refine call_of env_ok rfl 1000 ?_) | ((with_reducible show XopN _ _ _ _ _ _); refine xop_of env_ok rfl 1000 ?_) | ((with_reducible show CallX _ _ _ _ _ _); first | (refine callX (.int .i64 0) (by kernel_rfl) rfl (trivial) (fun β w hm => HC w) ?_) | (refine callX (.str (ScP.rewP (ScP.renG fr nw) s)) (by kernel_rfl) rfl trivial (fun β w' hm => ?_) ?_)) | ((with_reducible show OpX _ _ _ _); first | fail) | ((with_reducible show ∃ _ : SV, _); first | (refine ⟨_, ?ok, x_func, ?_⟩; (case ok => exact fun n h => h))) | ((with_reducible show ∃ _, _); first | fail))
      · exact absurd (by assumption) hf1
      · exact absurd (by assumption) hf2
      · have h1 : w'.cell? ⟨β 0, 0, none⟩ = some (.string (bstr fr)) := memK hm 0 0 rfl rfl
        have h2 : w'.cell? ⟨β 1, 0, none⟩ = some (.string (bstr nw)) := memK hm 1 0 rfl rfl
        exact replaced_any s 58 [.pointer (some ⟨β 0, 0, none⟩), .pointer (some ⟨β 1, 0, none⟩)] (ScP.renG fr nw) w' hs (Nat.lt_of_lt_of_le hw0 hm.base_le) (hw.below hm.below) (by kernel_rfl) (by simp [Value.oneCell']) (fun x hx => RfP.rename_valid hf1 hn hx)
          (fun x w1 hx hb => rename1_any x fr nw _ _ w1 (cellK h1 hb) (cellK h2 hb))
      · rfl
    · rw [if_pos hn]
      refine enter env_ok Tryz.func28 rfl Tryz.results28 Tryz.ntmps28 [] [] [.str s, .str fr, .str nw] (by simp [SV.oks, SV.ok]) (Nat.le_of_ble_eq_true rfl) w _ 1000 ?_
      repeat' (first | ((with_reducible first | show wpS _ _ _ _ | show putD _ _ _ _ | show putW _ _ _ _ | show splitG _ _ _ | show wpQ _ _ _ _ _ _ | show wpD _ _ _ _ _ _ _ | show wpX _ _ _ _ _ _ | show expX _ _ _ _ _ _ | show stepX _ _ _ _); conv => whnf) | ((with_reducible show RetN _ _ _); refine retB fun β => ?_) | ((with_reducible show _ ∧ _); first | (apply And.intro; (· intro h; exfalso; first | omega | (revert h; decide)); intro _) | (apply And.intro; rotate_left; (· intro h; exfalso; first | omega | (revert h; decide)); intro _) | (refine ⟨fun _ => ?_, fun _ => ?_⟩) | (apply And.intro; · kernel_rfl) | (apply And.intro; · (show inK _ _; unfold inK; omega)) | (apply And.intro; · (show (_ : Int) ≤ 9223372036854775807; (try simp only [List.length_append, List.length_drop, List.length_take, List.length_cons, List.length_nil]); omega))) | ((with_reducible show bothX _ _); refine bothI ?_ ?_; conv => whnf) | (with_reducible exact trivial) | ((with_reducible show CallN _ _ _ _ _ _ _ _); refine call_of env_ok rfl 1000 ?_) | ((with_reducible show XopN _ _ _ _ _ _); refine xop_of env_ok rfl 1000 ?_) | ((with_reducible show CallX _ _ _ _ _ _); first | (refine callX (.int .i64 (RfP.nameP nw)) (by kernel_rfl) rfl (trivial) (fun β w hm => HC w) ?_)) | ((with_reducible show OpX _ _ _ _); first | fail) | ((with_reducible show ∃ _ : SV, _); first | fail) | ((with_reducible show ∃ _, _); first | fail))
      all_goals first | rfl | simp_all
end Go.Proofs.YtmodjglbjempkaaGreatDoor
namespace Go.Proofs.YtmodjglbjempkaaGreatDoor
open Go.RowKit
open Sym
attribute [local irreducible] Calls Sym.AggEq
namespace ScP
structure GoodT (t : Tok) : Prop where
  five : t.1 = 5 → t.2.all wordlyC = true
  seven : t.1 = 7 → ∃ n, n < t.2.length ∧ Lib.indexByte t.2 91 = (n : Nat) ∧ (t.2.take n).all wordlyC = true
theorem good_other {k : Nat} {tx : Str} (h5 : k ≠ 5) (h7 : k ≠ 7) : GoodT (k, tx) := ⟨fun h => absurd h h5, fun h => absurd h h7⟩
theorem run_take (p : UInt8 → Bool) : ∀ s : Str, (s.take (runP p s)).all p = true
  | [] => rfl
  | c :: r => by
    have ih := run_take p r
    unfold runP at ih ⊢
    by_cases h : p c = true
    · rw [List.takeWhile_cons_of_pos h, List.length_cons, List.take_succ_cons, List.all_cons, h, ih]; rfl
    · rw [List.takeWhile_cons_of_neg h]; rfl
theorem index_run : ∀ (s : Str) (n : Nat), n < s.length → (s.take n).all wordlyC = true → s.getD n 0 = 91 → Lib.indexByte s 91 = (n : Nat)
  | [], n, h, _, _ => by simp at h
  | c :: r, 0, _, _, h => by
    have h : c = 91 := h
    subst h; rfl
  | c :: r, n + 1, hn, ha, h => by
    have h1 : wordlyC c = true := by simp at ha; exact ha.1
    have h2 : (r.take n).all wordlyC = true := by simp at ha ⊢; exact ha.2
    have ih := index_run r n (by simpa using hn) h2 (by simpa using h)
    have hc : c ≠ 91 := by rintro rfl; revert h1; decide
    unfold Lib.indexByte
    rw [if_neg (by simpa using hc), ih, if_neg (by simp)]; omega
theorem word_good (u : Str) (h : (wordP u).2 ≠ 0) : GoodT ((wordP u).1, u.take (wordP u).2) := by
  have hr := run_take wordlyC u
  unfold wordP at h ⊢
  dsimp only at h ⊢
  generalize hn : runP wordlyC u = n at *
  split
  · exact good_other (by simp) (by simp)
  rename_i n1
  rw [if_neg n1] at h
  split
  · exact good_other (by simp) (by simp)
  rename_i n2
  rw [if_neg n2] at h
  split
  · rename_i n3
    rw [if_pos n3] at h
    refine ⟨fun h => by simp at h, fun _ => ⟨n, ?_⟩⟩
    dsimp only at h ⊢
    by_cases hb : bracketsP (u.drop n) = 0
    · rw [if_pos hb] at h; exact absurd rfl h
    · rw [if_neg hb]
      have hl : n < (u.take (n + bracketsP (u.drop n))).length := by rw [List.length_take]; omega
      have ht : (u.take (n + bracketsP (u.drop n))).take n = u.take n := by rw [List.take_take]; congr 1; omega
      refine ⟨hl, index_run _ n hl (by rw [ht]; exact hr) ?_, by rw [ht]; exact hr⟩
      have e := n3.2.1
      rw [List.getD_eq_getElem?_getD] at e ⊢
      rw [List.getElem?_take, if_pos (by omega)]; exact e
  rename_i n3
  rw [if_neg n3] at h
  split
  · exact good_other (by simp) (by simp)
  rename_i n4
  rw [if_neg n4] at h
  split
  · exact ⟨fun _ => hr, fun h => by simp at h⟩
  · rename_i n5
    rw [if_neg n5] at h; exact absurd rfl h
theorem fault_kind (s : Str) : ∀ L, (faultP s L).1 = 8 ∨ (faultP s L).1 = 3
  | [] => .inl rfl
  | f :: r => by unfold faultP; split; exact .inr rfl; exact fault_kind s r
theorem tok_good (u : Str) (h : (tokP u).2 ≠ 0) : GoodT ((tokP u).1, u.take (tokP u).2) := by
  by_cases hw : (tokP u) = wordP u
  · rw [hw] at h ⊢; exact word_good u h
  · suffices hk : (tokP u).1 ≠ 5 ∧ (tokP u).1 ≠ 7 from good_other hk.1 hk.2
    have hf := fault_kind u faults
    revert hw
    unfold tokP
    dsimp only
    (repeat' split) <;> intro hw <;> first | exact absurd rfl hw | omega | (simp; done)
theorem scanG_good : ∀ (f : Nat) (s : Str) (p : Nat) (acc : List Tok), (∀ t ∈ acc, GoodT t) → ∀ t ∈ (scanG f s p acc).1, GoodT t
  | 0, s, p, acc, h, t, ht => by unfold scanG at ht; exact h t ht
  | f + 1, s, p, acc, h, t, ht => by
    unfold scanG at ht
    split at ht
    · split at ht
      · simp at ht
      · rename_i h0
        refine scanG_good f s _ _ (fun u hu => ?_) t ht
        rcases List.mem_append.1 hu with hu | hu
        · exact h u hu
        · obtain rfl := List.mem_singleton.1 hu
          have e : (s.take (p + (tokP (s.drop p)).2)).drop p = (s.drop p).take (tokP (s.drop p)).2 := by rw [List.drop_take]; congr 1; omega
          rw [e]
          exact tok_good _ h0
    · exact h t ht
theorem scan_good (s : Str) : ∀ t ∈ (scanP s).1, GoodT t := by
  unfold scanP
  split
  · exact scanG_good _ s 1 [] (fun t h => by simp at h)
  · intro t h; simp at h
/-- how long the name in a token is -/
def nameN (t : Tok) : Nat := if t.1 = 7 then (Lib.indexByte t.2 91).toNat else t.2.length
def pieceP (fr nw : Str) (t : Tok) : Str := if (t.1 = 5 ∨ t.1 = 7) ∧ lowP (t.2.take (nameN t)) = lowP fr then nw ++ t.2.drop (nameN t) else t.2
def piecesP (fr nw : Str) (L : List Tok) : Str := L.flatMap (pieceP fr nw)
def newNameP (s fr nw : Str) : Str := if (scanP s).2 = none then [61] ++ piecesP fr nw (scanP s).1 else s
/-- what RenameName answers -/
def rnS (s fr nw : Str) : Str × Int := if (namedP fr && namedP nw) = true then (newNameP s fr nw, 0) else ([], 9)
theorem pieces_next {fr nw : Str} {L : List Tok} {k : Nat} {t : Tok} (h : L[k]? = some t) : piecesP fr nw (L.take (k + 1)) = piecesP fr nw (L.take k) ++ pieceP fr nw t := by
  rw [take_add L k t h]; unfold piecesP; rw [List.flatMap_append]; simp
theorem named_ascii {s : Str} (h : namedP s = true) : ∀ c ∈ s, c < 128 := by
  unfold namedP formP at h
  simp only [Bool.and_eq_true, List.all_eq_true] at h
  exact fun c hc => name_ascii (h.1.2.2 c hc)
set_option maxRecDepth 100000 in
theorem wordly_ascii {s : Str} (h : s.all wordlyC = true) : ∀ c ∈ s, c < 128 := by
  have key : ∀ k : Fin 256, wordlyC (UInt8.ofNat k.val) = true → UInt8.ofNat k.val < 128 := by decide
  rw [List.all_eq_true] at h
  intro c hc
  have hc' : UInt8.ofNat c.toNat = c := by simp
  have := key ⟨c.toNat, c.toNat_lt⟩
  dsimp only at this
  rw [hc'] at this
  exact this (h c hc)
end ScP
end Go.Proofs.YtmodjglbjempkaaGreatDoor
