/- Formulas divided into tokens: Scan, the program's and the reference's. Formulas divided into tokens: slices held against each other. Formulas divided into tokens: their references. -/
import Derived.Test.YtmodjglbjempkaaGreatDoorHScB
import Derived.Test.YtmodjglbjempkaaGreatDoorHSb
set_option linter.unusedSimpArgs false
set_option linter.unusedVariables false
namespace Go.Proofs.YtmodjglbjempkaaGreatDoor
open Go.RowKit
open Sym
attribute [local irreducible] Calls
namespace ScP
theorem tok_le (s : Str) (h : 0 < s.length) : (tokP s).2 ≤ s.length := by
  have h1 := run_le blankC s
  have h2 := quo_le (s.getD 0 0) (s.drop 1) 1
  have h3 : quotedP s (s.getD 0 0) ≤ s.length := by unfold quotedP; simp at h2 ⊢; omega
  have h4 := sheeted_le s (quotedP s (s.getD 0 0))
  have h5 := rows_le s
  have h6 := number_le s
  have h7 : (wordP s).2 ≤ s.length := by
    unfold wordP
    dsimp only
    have a1 := run_le wordlyC s
    have a2 := sheeted_le s (runP wordlyC s)
    have a3 := area_le s (runP wordlyC s) a1
    have a4 : bracketsP (s.drop (runP wordlyC s)) ≤ s.length - runP wordlyC s := by have := br_le (s.drop (runP wordlyC s)) 0 0; unfold bracketsP; simpa using this
    (repeat' split) <;> (try dsimp only) <;> first | omega | (split <;> omega)
  have h8 : ∀ l : List Str, (∀ f ∈ l, f.length ≤ s.length ∨ f.isPrefixOf s = false) → (faultP s l).2 ≤ s.length := by
    intro l hl
    induction l with
    | nil => unfold faultP; exact h
    | cons f r ih =>
      unfold faultP
      split
      · rename_i hp
        rcases hl f (by simp) with q | q
        · exact q
        · rw [q] at hp; cases hp
      · exact ih (fun g hg => hl g (by simp [hg]))
  have pre : ∀ f : Str, f.length ≤ s.length ∨ f.isPrefixOf s = false := fun f => by
    rw [pre_take]
    by_cases q : f.length ≤ s.length
    · exact .inl q
    · right; simp [q]
  have h9 := h8 faults (fun f _ => pre f)
  have hR : refT.isPrefixOf s = true → 5 ≤ s.length := fun e => by
    rcases pre refT with q | q
    · exact q
    · rw [q] at e; cases e
  have h2p : ∀ c d : UInt8, ([c, d] : Str).isPrefixOf s = true → 2 ≤ s.length := fun c d e => by
    rcases pre [c, d] with q | q
    · exact q
    · rw [q] at e; cases e
  unfold tokP
  dsimp only
  generalize tokP s = t at *
  split
  · exact h1
  split
  · exact h3
  split
  · split
    · exact hR (by assumption)
    · exact h9
  split
  · split
    · exact Nat.zero_le _
    · exact h4
  split
  · split
    · exact h6
    · exact h5
  split
  · exact h7
  split
  · rename_i q
    rcases q with q | q | q <;> exact h2p _ _ q
  split
  · exact h
  · exact Nat.zero_le _
abbrev Tok := Nat × Str
def scanG : Nat → Str → Nat → List Tok → List Tok × Option Nat
  | 0, _, _, acc => (acc, none)
  | f + 1, s, p, acc =>
    if p < s.length then
      if (tokP (s.drop p)).2 = 0 then ([], some p)
      else scanG f s (p + (tokP (s.drop p)).2) (acc ++ [((tokP (s.drop p)).1, (s.take (p + (tokP (s.drop p)).2)).drop p)])
    else (acc, none)
def scanP (s : Str) : List Tok × Option Nat := if ([61] : Str).isPrefixOf s = true then scanG (s.length + 1) s 1 [] else ([], some 0)
theorem scan_end {s : Str} {p f : Nat} {acc : List Tok} (h : s.length ≤ p) : scanG (f + 1) s p acc = (acc, none) := by
  unfold scanG; rw [if_neg (by omega)]
theorem scan_bad {s : Str} {p f : Nat} {acc : List Tok} (h : p < s.length) (h2 : (tokP (s.drop p)).2 = 0) : scanG (f + 1) s p acc = ([], some p) := by
  unfold scanG; rw [if_pos h, if_pos h2]
theorem scan_step {s : Str} {p f n k : Nat} {acc : List Tok} (h : p < s.length) (ht : tokP (s.drop p) = (k, n)) (h2 : ¬ n = 0) : scanG (f + 1) s p acc = scanG f s (p + n) (acc ++ [(k, (s.take (p + n)).drop p)]) := by
  conv => lhs; unfold scanG
  rw [if_pos h, ht, if_neg h2]
end ScP
abbrev tokV (t : ScP.Tok) : List Value := [.int .i64 (t.1 : Nat), .string (bstr t.2)]
def toksV (L : List ScP.Tok) : List Value := L.flatMap tokV
theorem toksV_add (L : List ScP.Tok) (t : ScP.Tok) : toksV (L ++ [t]) = toksV L ++ tokV t := by simp [toksV]
/-- what Scan answers -/
def FScan (w : World) (R : List ScP.Tok × Option Nat) : Ending → World → Prop := fun e w' => ∃ a cap, e = .returned (.tuple #[.slice a R.1.length cap, .int .i64 ((R.2.getD 0 : Nat) : Int), .int .i64 (if R.2 = none then 0 else 10)]) ∧ SlAt a (toksV R.1) w' ∧ Fresh a w ∧ Below w.heap.size w w'
def RScan (w : World) (R : List ScP.Tok × Option Nat) : Ending → World → Prop := fun e w' => ∃ a cap, e = .returned (.tuple #[.slice a R.1.length cap, .int .i64 (match R.2 with | none => -1 | some p => (p : Int))]) ∧ SlAt a (toksV R.1) w' ∧ Fresh a w ∧ Below w.heap.size w w'
theorem tokInfo : (Tryz.prog.info? 33).map (fun i => (i.zero, i.size, i.bytes)) = some (some (.agg #[.int .i64 0, .string (bstr [])]), 2, 24) := by kernel_rfl
structure ScA (s : List UInt8) (p f n : Nat) (acc : List ScP.Tok) (xs : List Value) : Prop where
  hp : 1 ≤ p
  hl : p ≤ s.length + 1
  hf : s.length ≤ p + f
  hn : n = acc.length
  hnp : n ≤ p
  hx : xs = toksV acc
  eq : ScP.scanP s = ScP.scanG (f + 1) s p acc
structure ScT where
  st : Bool
  p : Nat
  f : Nat
  n : Nat
  acc : List ScP.Tok
  xs : List Value
  g : Nat
  cap : Nat
abbrev fsJ (s : List UInt8) (t : ScT) : St := match t.st with
  | false => ⟨[(0, .str s), (5, .any (.slice none 0 0)), (6, .int .i64 (t.p : Nat))], [], 0, 41⟩
  | true => ⟨[(0, .str s), (5, .any (.slice (some ⟨t.g, 0, none⟩) t.n t.cap)), (6, .int .i64 (t.p : Nat))], [(1, true, .blob (OwnS 33 2 t.g t.n t.cap t.xs))], 2, 41⟩
abbrev FsT (s : List UInt8) := {t : ScT // ScA s t.p t.f t.n t.acc t.xs ∧ (t.st = false → t.acc = [])}
set_option maxRecDepth 100000 in
set_option maxHeartbeats 4000000 in
theorem fScan_any (s : List UInt8) (w : World) (hs : s.length ≤ 1000000) : Calls Tryz.prog 9 #[.string (bstr s)] w (FScan w (ScP.scanP s)) := by
  obtain ⟨i0, hi, hz0, hz1, hz2⟩ := info_parts tokInfo
  have hu := Tryz.underlying24
  have hsz := fun w => Tryz.sizeOf33 w
  have hzv := fun w => Tryz.zeroValue33 w
  have H0 := fun w => hasP_any s [61] w
  cases h61 : ([61] : List UInt8).isPrefixOf s with
  | false =>
    have hS : ScP.scanP s = ([], some 0) := by unfold ScP.scanP; rw [if_neg (by rw [h61]; simp)]
    rw [hS]
    rw [h61] at H0
    refine enter env_ok Tryz.func9 rfl Tryz.results9 Tryz.ntmps9 [] [] [.str s] (by simp [SV.oks, SV.ok]) (Nat.le_of_ble_eq_true rfl) w _ 1000 ?_
    repeat' (first | ((with_reducible first | show wpS _ _ _ _ | show putD _ _ _ _ | show putW _ _ _ _ | show splitG _ _ _ | show wpQ _ _ _ _ _ _ | show wpD _ _ _ _ _ _ _ | show wpX _ _ _ _ _ _ | show expX _ _ _ _ _ _ | show stepX _ _ _ _); conv => whnf) | ((with_reducible show RetN _ _ _); refine retB fun β => ?_) | ((with_reducible show _ ∧ _); first | (apply And.intro; (· intro h; exfalso; first | omega | (revert h; decide)); intro _) | (apply And.intro; rotate_left; (· intro h; exfalso; first | omega | (revert h; decide)); intro _) | (refine ⟨fun _ => ?_, fun _ => ?_⟩) | (apply And.intro; · kernel_rfl) | (apply And.intro; · (show inK _ _; unfold inK; omega)) | (apply And.intro; · (show (_ : Int) ≤ 9223372036854775807; (try simp only [List.length_append, List.length_drop, List.length_take, List.length_cons, List.length_nil]); omega))) | ((with_reducible show bothX _ _); refine bothI ?_ ?_; conv => whnf) | (with_reducible exact trivial) | ((with_reducible show CallN _ _ _ _ _ _ _ _); refine call_of env_ok rfl 1000 ?_) | ((with_reducible show XopN _ _ _ _ _ _); refine xop_of env_ok rfl 1000 ?_) | ((with_reducible show CallX _ _ _ _ _ _); first | (refine callX (.lit false) (by kernel_rfl) rfl (trivial) (fun β w hm => H0 w) ?_)) | ((with_reducible show OpX _ _ _ _); first | fail) | ((with_reducible show ∃ _ : SV, _); first | fail) | ((with_reducible show ∃ _, _); first | fail))
    refine ret fun β w' hm => ?_
    exact ⟨none, 0, rfl, fun i v h => by simp [toksV] at h, fun _ h => (by cases h), hm.below⟩
  | true =>
    have hS : ScP.scanP s = ScP.scanG (s.length + 1) s 1 [] := by unfold ScP.scanP; rw [if_pos h61]
    rw [h61] at H0
    refine enter env_ok Tryz.func9 rfl Tryz.results9 Tryz.ntmps9 [] [] [.str s] (by simp [SV.oks, SV.ok]) (Nat.le_of_ble_eq_true rfl) w _ 1000 ?_
    repeat' (first | ((with_reducible first | show wpS _ _ _ _ | show putD _ _ _ _ | show putW _ _ _ _ | show splitG _ _ _ | show wpQ _ _ _ _ _ _ | show wpD _ _ _ _ _ _ _ | show wpX _ _ _ _ _ _ | show expX _ _ _ _ _ _ | show stepX _ _ _ _); conv => whnf) | ((with_reducible show RetN _ _ _); refine retB fun β => ?_) | ((with_reducible show _ ∧ _); first | (apply And.intro; (· intro h; exfalso; first | omega | (revert h; decide)); intro _) | (apply And.intro; rotate_left; (· intro h; exfalso; first | omega | (revert h; decide)); intro _) | (refine ⟨fun _ => ?_, fun _ => ?_⟩) | (apply And.intro; · kernel_rfl) | (apply And.intro; · (show inK _ _; unfold inK; omega)) | (apply And.intro; · (show (_ : Int) ≤ 9223372036854775807; (try simp only [List.length_append, List.length_drop, List.length_take, List.length_cons, List.length_nil]); omega))) | ((with_reducible show bothX _ _); refine bothI ?_ ?_; conv => whnf) | (with_reducible exact trivial) | ((with_reducible show CallN _ _ _ _ _ _ _ _); refine call_of env_ok rfl 1000 ?_) | ((with_reducible show XopN _ _ _ _ _ _); refine xop_of env_ok rfl 1000 ?_) | ((with_reducible show CallX _ _ _ _ _ _); first | (refine callX (.lit true) (by kernel_rfl) rfl (trivial) (fun β w hm => H0 w) ?_)) | ((with_reducible show OpX _ _ _ _); first | fail) | ((with_reducible show ∃ _ : SV, _); first | fail) | ((with_reducible show ∃ _, _); first | fail))
    refine loop env_ok rfl (T := FsT s) (fun t => fsJ s t.1) (fun t => s.length + 1 - t.1.p) ⟨⟨false, 1, s.length, 0, [], [], 0, 0⟩, ⟨Nat.le_refl _, by dsimp only; omega, by dsimp only; omega, rfl, Nat.zero_le _, rfl, hS⟩, fun _ => rfl⟩ 1000 [] [] (fun _ => Nat.zero_le _) (by ((with_reducible show wk _ _); repeat' (first | exact trivial | exact eqSV_refl _ | (refine eqI ?_) | (refine eqS ?_) | (with_reducible exact rfl) | apply And.intro | exact Nat.zero_lt_one | exact Nat.le_of_ble_eq_true rfl | (with_reducible assumption) | ((show (_ : Int) = _); (try dsimp only); omega) | ((show eqSV _ _); simp [eqSV, isB, bval, *]; done) | rfl))) (fun t I hI => ?_)
    obtain ⟨⟨st, p, f, n, acc, xs, g, cap⟩, ⟨q1, q2, q3, q4, q5, q6, q7⟩, hst⟩ := t
    dsimp only at q1 q2 q3 q4 q5 q6 q7 hst
    by_cases hlt : p < s.length
    · obtain ⟨f, rfl⟩ : ∃ f', f = f' + 1 := ⟨f - 1, by omega⟩
      have hdl : 0 < (s.drop p).length := by simp; omega
      have hN := fun w => next_any (s.drop p) w (by simp; omega) hdl
      have htl := ScP.tok_le (s.drop p) hdl
      have hb := ScP.scan_bad (f := f + 1) (acc := acc) hlt
      have hstep := fun k m h => ScP.scan_step (f := f + 1) (acc := acc) (k := k) (n := m) hlt h
      generalize ScP.tokP (s.drop p) = tk at *
      obtain ⟨k, m⟩ := tk
      replace hstep := hstep k m rfl
      dsimp only at hN htl hb hstep
      have htl2 : m ≤ s.length - p := by simpa using htl
      cases st
      · obtain rfl : acc = [] := hst rfl
        dsimp only [fsJ]
        repeat' (first | ((with_reducible first | show wpS _ _ _ _ | show putD _ _ _ _ | show putW _ _ _ _ | show splitG _ _ _ | show wpQ _ _ _ _ _ _ | show wpD _ _ _ _ _ _ _ | show wpX _ _ _ _ _ _ | show expX _ _ _ _ _ _ | show stepX _ _ _ _); conv => whnf) | ((with_reducible show RetN _ _ _); refine retB fun β => ?_) | ((with_reducible show _ ∧ _); first | (apply And.intro; (· intro h; exfalso; first | omega | (revert h; decide)); intro _) | (apply And.intro; rotate_left; (· intro h; exfalso; first | omega | (revert h; decide)); intro _) | (refine ⟨fun _ => ?_, fun _ => ?_⟩) | (apply And.intro; · kernel_rfl) | (apply And.intro; · (show inK _ _; unfold inK; omega)) | (apply And.intro; · (show (_ : Int) ≤ 9223372036854775807; (try simp only [List.length_append, List.length_drop, List.length_take, List.length_cons, List.length_nil]); omega))) | ((with_reducible show bothX _ _); refine bothI ?_ ?_; conv => whnf) | (with_reducible exact trivial) | ((with_reducible show CallN _ _ _ _ _ _ _ _); refine call_of env_ok rfl 1000 ?_) | ((with_reducible show XopN _ _ _ _ _ _); refine xop_of env_ok rfl 1000 ?_) | ((with_reducible show CallX _ _ _ _ _ _); first | (refine callX (.tup [.int .i64 (k : Nat), .int .i64 (m : Nat)]) (by kernel_rfl) rfl (⟨trivial, trivial, trivial⟩) (fun β w hm => hN w) ?_)) | ((with_reducible show OpX _ _ _ _); first | (refine opx_build1 (sz := 2) rfl rfl rfl (xs := tokV (k, (s.take (p + m)).drop p)) (fun β => rfl) rfl (by omega) (by omega) hu hsz hzv (fun g1 => ?_)) | (refine opx_append0 (sz := 2) 0 rfl hu hi hz0 hz1 rfl (by omega) rfl rfl rfl (by unfold maxLen; omega) (by rw [hz2]; omega) (by simp [Value.oneCell']) (by omega) (fun g2 cap2 => ?_))) | ((with_reducible show ∃ _ : SV, _); first | fail) | ((with_reducible show ∃ _, _); first | (refine ⟨p, rfl, by omega, ?_⟩) | (refine ⟨p, p + m, rfl, by omega, by omega, by omega, ?_⟩)))
        · rw [q7, hb (by omega)]
          exact ret fun β w' hm => ⟨none, 0, rfl, fun i v h => by simp [toksV] at h, fun _ h => (by cases h), hm.below⟩
        · refine hI _ ⟨⟨true, p + m, f, 1, [(k, (s.take (p + m)).drop p)], tokV (k, (s.take (p + m)).drop p), g2, cap2⟩, ⟨by dsimp only; omega, by dsimp only; omega, by dsimp only; omega, rfl, by dsimp only; omega, rfl, q7.trans (hstep (by omega))⟩, fun h => by cases h⟩ (by dsimp only; omega) (by ((with_reducible show wk _ _); repeat' (first | exact trivial | exact eqSV_refl _ | (refine eqI ?_) | (refine eqS ?_) | (with_reducible exact rfl) | apply And.intro | exact Nat.zero_lt_one | exact Nat.le_of_ble_eq_true rfl | (with_reducible assumption) | ((show (_ : Int) = _); (try dsimp only); omega) | ((show eqSV _ _); simp [eqSV, isB, bval, *]; done) | rfl)); all_goals exact fun b x h => h)
      · dsimp only [fsJ]
        repeat' (first | ((with_reducible first | show wpS _ _ _ _ | show putD _ _ _ _ | show putW _ _ _ _ | show splitG _ _ _ | show wpQ _ _ _ _ _ _ | show wpD _ _ _ _ _ _ _ | show wpX _ _ _ _ _ _ | show expX _ _ _ _ _ _ | show stepX _ _ _ _); conv => whnf) | ((with_reducible show RetN _ _ _); refine retB fun β => ?_) | ((with_reducible show _ ∧ _); first | (apply And.intro; (· intro h; exfalso; first | omega | (revert h; decide)); intro _) | (apply And.intro; rotate_left; (· intro h; exfalso; first | omega | (revert h; decide)); intro _) | (refine ⟨fun _ => ?_, fun _ => ?_⟩) | (apply And.intro; · kernel_rfl) | (apply And.intro; · (show inK _ _; unfold inK; omega)) | (apply And.intro; · (show (_ : Int) ≤ 9223372036854775807; (try simp only [List.length_append, List.length_drop, List.length_take, List.length_cons, List.length_nil]); omega))) | ((with_reducible show bothX _ _); refine bothI ?_ ?_; conv => whnf) | (with_reducible exact trivial) | ((with_reducible show CallN _ _ _ _ _ _ _ _); refine call_of env_ok rfl 1000 ?_) | ((with_reducible show XopN _ _ _ _ _ _); refine xop_of env_ok rfl 1000 ?_) | ((with_reducible show CallX _ _ _ _ _ _); first | (refine callX (.tup [.int .i64 (k : Nat), .int .i64 (m : Nat)]) (by kernel_rfl) rfl (⟨trivial, trivial, trivial⟩) (fun β w hm => hN w) ?_)) | ((with_reducible show OpX _ _ _ _); first | (refine opx_build1 (sz := 2) rfl rfl rfl (xs := tokV (k, (s.take (p + m)).drop p)) (fun β => rfl) rfl (by omega) (by omega) hu hsz hzv (fun g1 => ?_)) | (refine opx_append (sz := 2) 1 2 rfl hu hi hz0 hz1 rfl (by omega) rfl rfl rfl rfl (by unfold maxLen; omega) (by rw [hz2]; omega) (by simp [Value.oneCell']) (by kernel_rfl) (Nat.zero_le _) (fun g2 cap2 => ?_))) | ((with_reducible show ∃ _ : SV, _); first | fail) | ((with_reducible show ∃ _, _); first | (refine ⟨p, rfl, by omega, ?_⟩) | (refine ⟨p, p + m, rfl, by omega, by omega, by omega, ?_⟩)))
        · rw [q7, hb (by omega)]
          exact ret fun β w' hm => ⟨none, 0, rfl, fun i v h => by simp [toksV] at h, fun _ h => (by cases h), hm.below⟩
        · refine hI _ ⟨⟨true, p + m, f, n + 1, acc ++ [(k, (s.take (p + m)).drop p)], xs ++ tokV (k, (s.take (p + m)).drop p), g2, cap2⟩, ⟨by dsimp only; omega, by dsimp only; omega, by dsimp only; omega, by simp [q4], by dsimp only; omega, by rw [toksV_add, q6], q7.trans (hstep (by omega))⟩, fun h => by cases h⟩ (by dsimp only; omega) (by ((with_reducible show wk _ _); repeat' (first | exact trivial | exact eqSV_refl _ | (refine eqI ?_) | (refine eqS ?_) | (with_reducible exact rfl) | apply And.intro | exact Nat.zero_lt_one | exact Nat.le_of_ble_eq_true rfl | (with_reducible assumption) | ((show (_ : Int) = _); (try dsimp only); omega) | ((show eqSV _ _); simp [eqSV, isB, bval, *]; done) | rfl)); all_goals exact fun b x h => h)
    · rw [q7, ScP.scan_end (by omega)]
      cases st
      · obtain rfl : acc = [] := hst rfl
        dsimp only [fsJ]
        repeat' (first | ((with_reducible first | show wpS _ _ _ _ | show putD _ _ _ _ | show putW _ _ _ _ | show splitG _ _ _ | show wpQ _ _ _ _ _ _ | show wpD _ _ _ _ _ _ _ | show wpX _ _ _ _ _ _ | show expX _ _ _ _ _ _ | show stepX _ _ _ _); conv => whnf) | ((with_reducible show RetN _ _ _); refine retB fun β => ?_) | ((with_reducible show _ ∧ _); first | (apply And.intro; (· intro h; exfalso; first | omega | (revert h; decide)); intro _) | (apply And.intro; rotate_left; (· intro h; exfalso; first | omega | (revert h; decide)); intro _) | (refine ⟨fun _ => ?_, fun _ => ?_⟩) | (apply And.intro; · kernel_rfl) | (apply And.intro; · (show inK _ _; unfold inK; omega)) | (apply And.intro; · (show (_ : Int) ≤ 9223372036854775807; (try simp only [List.length_append, List.length_drop, List.length_take, List.length_cons, List.length_nil]); omega))) | ((with_reducible show bothX _ _); refine bothI ?_ ?_; conv => whnf) | (with_reducible exact trivial) | ((with_reducible show CallN _ _ _ _ _ _ _ _); refine call_of env_ok rfl 1000 ?_) | ((with_reducible show XopN _ _ _ _ _ _); refine xop_of env_ok rfl 1000 ?_) | ((with_reducible show CallX _ _ _ _ _ _); first | fail) | ((with_reducible show OpX _ _ _ _); first | fail) | ((with_reducible show ∃ _ : SV, _); first | fail) | ((with_reducible show ∃ _, _); first | fail))
        exact ret fun β w' hm => ⟨none, 0, rfl, fun i v h => by simp [toksV] at h, fun _ h => (by cases h), hm.below⟩
      · dsimp only [fsJ]
        repeat' (first | ((with_reducible first | show wpS _ _ _ _ | show putD _ _ _ _ | show putW _ _ _ _ | show splitG _ _ _ | show wpQ _ _ _ _ _ _ | show wpD _ _ _ _ _ _ _ | show wpX _ _ _ _ _ _ | show expX _ _ _ _ _ _ | show stepX _ _ _ _); conv => whnf) | ((with_reducible show RetN _ _ _); refine retB fun β => ?_) | ((with_reducible show _ ∧ _); first | (apply And.intro; (· intro h; exfalso; first | omega | (revert h; decide)); intro _) | (apply And.intro; rotate_left; (· intro h; exfalso; first | omega | (revert h; decide)); intro _) | (refine ⟨fun _ => ?_, fun _ => ?_⟩) | (apply And.intro; · kernel_rfl) | (apply And.intro; · (show inK _ _; unfold inK; omega)) | (apply And.intro; · (show (_ : Int) ≤ 9223372036854775807; (try simp only [List.length_append, List.length_drop, List.length_take, List.length_cons, List.length_nil]); omega))) | ((with_reducible show bothX _ _); refine bothI ?_ ?_; conv => whnf) | (with_reducible exact trivial) | ((with_reducible show CallN _ _ _ _ _ _ _ _); refine call_of env_ok rfl 1000 ?_) | ((with_reducible show XopN _ _ _ _ _ _); refine xop_of env_ok rfl 1000 ?_) | ((with_reducible show CallX _ _ _ _ _ _); first | fail) | ((with_reducible show OpX _ _ _ _); first | fail) | ((with_reducible show ∃ _ : SV, _); first | fail) | ((with_reducible show ∃ _, _); first | fail))
        refine ret fun β w' hm => ?_
        obtain ⟨r1, -, -, r4⟩ := hm.row 1 _ _ rfl
        exact ⟨some ⟨g, 0, none⟩, cap, by rw [q4]; rfl, by rw [← q6]; exact r1.2.slAt r1.1, fun ad e => by cases e; rw [← r1.2.1]; exact r4 rfl, hm.below⟩
abbrev rsJ (s : List UInt8) (t : ScT) : St := match t.st with
  | false => ⟨[(0, .str s), (4, .any (.slice none 0 0)), (5, .int .i64 (t.p : Nat))], [], 0, 40⟩
  | true => ⟨[(0, .str s), (4, .any (.slice (some ⟨t.g, 0, none⟩) t.n t.cap)), (5, .int .i64 (t.p : Nat))], [(1, true, .blob (OwnS 33 2 t.g t.n t.cap t.xs))], 2, 40⟩
abbrev RsT (s : List UInt8) := {t : ScT // ScA s t.p t.f t.n t.acc t.xs ∧ (t.st = false → t.acc = [])}
set_option maxRecDepth 100000 in
set_option maxHeartbeats 4000000 in
theorem rScan_any (s : List UInt8) (w : World) (hs : s.length ≤ 1000000) (hw : FT w) : Calls Tryz.prog 10 #[.string (bstr s)] w (RScan w (ScP.scanP s)) := by
  obtain ⟨i0, hi, hz0, hz1, hz2⟩ := info_parts tokInfo
  have hu := Tryz.underlying24
  have hsz := fun w => Tryz.sizeOf33 w
  have hzv := fun w => Tryz.zeroValue33 w
  have H0 := fun w => has_any s [61] w hs (by decide)
  cases h61 : ([61] : List UInt8).isPrefixOf s with
  | false =>
    have hS : ScP.scanP s = ([], some 0) := by unfold ScP.scanP; rw [if_neg (by rw [h61]; simp)]
    rw [hS]
    rw [h61] at H0
    refine enter env_ok Tryz.func10 rfl Tryz.results10 Tryz.ntmps10 [] [] [.str s] (by simp [SV.oks, SV.ok]) (Nat.le_of_ble_eq_true rfl) w _ 1000 ?_
    repeat' (first | ((with_reducible first | show wpS _ _ _ _ | show putD _ _ _ _ | show putW _ _ _ _ | show splitG _ _ _ | show wpQ _ _ _ _ _ _ | show wpD _ _ _ _ _ _ _ | show wpX _ _ _ _ _ _ | show expX _ _ _ _ _ _ | show stepX _ _ _ _); conv => whnf) | ((with_reducible show RetN _ _ _); refine retB fun β => ?_) | ((with_reducible show _ ∧ _); first | (apply And.intro; (· intro h; exfalso; first | omega | (revert h; decide)); intro _) | (apply And.intro; rotate_left; (· intro h; exfalso; first | omega | (revert h; decide)); intro _) | (refine ⟨fun _ => ?_, fun _ => ?_⟩) | (apply And.intro; · kernel_rfl) | (apply And.intro; · (show inK _ _; unfold inK; omega)) | (apply And.intro; · (show (_ : Int) ≤ 9223372036854775807; (try simp only [List.length_append, List.length_drop, List.length_take, List.length_cons, List.length_nil]); omega))) | ((with_reducible show bothX _ _); refine bothI ?_ ?_; conv => whnf) | (with_reducible exact trivial) | ((with_reducible show CallN _ _ _ _ _ _ _ _); refine call_of env_ok rfl 1000 ?_) | ((with_reducible show XopN _ _ _ _ _ _); refine xop_of env_ok rfl 1000 ?_) | ((with_reducible show CallX _ _ _ _ _ _); first | (refine callX (.lit false) (by kernel_rfl) rfl (trivial) (fun β w hm => H0 w) ?_)) | ((with_reducible show OpX _ _ _ _); first | fail) | ((with_reducible show ∃ _ : SV, _); first | fail) | ((with_reducible show ∃ _, _); first | fail))
    refine ret fun β w' hm => ?_
    exact ⟨none, 0, rfl, fun i v h => by simp [toksV] at h, fun _ h => (by cases h), hm.below⟩
  | true =>
    have hS : ScP.scanP s = ScP.scanG (s.length + 1) s 1 [] := by unfold ScP.scanP; rw [if_pos h61]
    rw [h61] at H0
    refine enter env_ok Tryz.func10 rfl Tryz.results10 Tryz.ntmps10 [] [] [.str s] (by simp [SV.oks, SV.ok]) (Nat.le_of_ble_eq_true rfl) w _ 1000 ?_
    repeat' (first | ((with_reducible first | show wpS _ _ _ _ | show putD _ _ _ _ | show putW _ _ _ _ | show splitG _ _ _ | show wpQ _ _ _ _ _ _ | show wpD _ _ _ _ _ _ _ | show wpX _ _ _ _ _ _ | show expX _ _ _ _ _ _ | show stepX _ _ _ _); conv => whnf) | ((with_reducible show RetN _ _ _); refine retB fun β => ?_) | ((with_reducible show _ ∧ _); first | (apply And.intro; (· intro h; exfalso; first | omega | (revert h; decide)); intro _) | (apply And.intro; rotate_left; (· intro h; exfalso; first | omega | (revert h; decide)); intro _) | (refine ⟨fun _ => ?_, fun _ => ?_⟩) | (apply And.intro; · kernel_rfl) | (apply And.intro; · (show inK _ _; unfold inK; omega)) | (apply And.intro; · (show (_ : Int) ≤ 9223372036854775807; (try simp only [List.length_append, List.length_drop, List.length_take, List.length_cons, List.length_nil]); omega))) | ((with_reducible show bothX _ _); refine bothI ?_ ?_; conv => whnf) | (with_reducible exact trivial) | ((with_reducible show CallN _ _ _ _ _ _ _ _); refine call_of env_ok rfl 1000 ?_) | ((with_reducible show XopN _ _ _ _ _ _); refine xop_of env_ok rfl 1000 ?_) | ((with_reducible show CallX _ _ _ _ _ _); first | (refine callX (.lit true) (by kernel_rfl) rfl (trivial) (fun β w hm => H0 w) ?_)) | ((with_reducible show OpX _ _ _ _); first | fail) | ((with_reducible show ∃ _ : SV, _); first | fail) | ((with_reducible show ∃ _, _); first | fail))
    refine loop env_ok rfl (T := RsT s) (fun t => rsJ s t.1) (fun t => s.length + 1 - t.1.p) ⟨⟨false, 1, s.length, 0, [], [], 0, 0⟩, ⟨Nat.le_refl _, by dsimp only; omega, by dsimp only; omega, rfl, Nat.zero_le _, rfl, hS⟩, fun _ => rfl⟩ 1000 [] [] (fun _ => Nat.zero_le _) (by ((with_reducible show wk _ _); repeat' (first | exact trivial | exact eqSV_refl _ | (refine eqI ?_) | (refine eqS ?_) | (with_reducible exact rfl) | apply And.intro | exact Nat.zero_lt_one | exact Nat.le_of_ble_eq_true rfl | (with_reducible assumption) | ((show (_ : Int) = _); (try dsimp only); omega) | ((show eqSV _ _); simp [eqSV, isB, bval, *]; done) | rfl))) (fun t I hI => ?_)
    obtain ⟨⟨st, p, f, n, acc, xs, g, cap⟩, ⟨q1, q2, q3, q4, q5, q6, q7⟩, hst⟩ := t
    dsimp only at q1 q2 q3 q4 q5 q6 q7 hst
    by_cases hlt : p < s.length
    · obtain ⟨f, rfl⟩ : ∃ f', f = f' + 1 := ⟨f - 1, by omega⟩
      have hdl : 0 < (s.drop p).length := by simp; omega
      have hN := fun w hw => Token_any (s.drop p) w (by simp; omega) hdl hw
      have htl := ScP.tok_le (s.drop p) hdl
      have hb := ScP.scan_bad (f := f + 1) (acc := acc) hlt
      have hstep := fun k m h => ScP.scan_step (f := f + 1) (acc := acc) (k := k) (n := m) hlt h
      generalize ScP.tokP (s.drop p) = tk at *
      obtain ⟨k, m⟩ := tk
      replace hstep := hstep k m rfl
      dsimp only at hN htl hb hstep
      have htl2 : m ≤ s.length - p := by simpa using htl
      cases st
      · obtain rfl : acc = [] := hst rfl
        dsimp only [rsJ]
        repeat' (first | ((with_reducible first | show wpS _ _ _ _ | show putD _ _ _ _ | show putW _ _ _ _ | show splitG _ _ _ | show wpQ _ _ _ _ _ _ | show wpD _ _ _ _ _ _ _ | show wpX _ _ _ _ _ _ | show expX _ _ _ _ _ _ | show stepX _ _ _ _); conv => whnf) | ((with_reducible show RetN _ _ _); refine retB fun β => ?_) | ((with_reducible show _ ∧ _); first | (apply And.intro; (· intro h; exfalso; first | omega | (revert h; decide)); intro _) | (apply And.intro; rotate_left; (· intro h; exfalso; first | omega | (revert h; decide)); intro _) | (refine ⟨fun _ => ?_, fun _ => ?_⟩) | (apply And.intro; · kernel_rfl) | (apply And.intro; · (show inK _ _; unfold inK; omega)) | (apply And.intro; · (show (_ : Int) ≤ 9223372036854775807; (try simp only [List.length_append, List.length_drop, List.length_take, List.length_cons, List.length_nil]); omega))) | ((with_reducible show bothX _ _); refine bothI ?_ ?_; conv => whnf) | (with_reducible exact trivial) | ((with_reducible show CallN _ _ _ _ _ _ _ _); refine call_of env_ok rfl 1000 ?_) | ((with_reducible show XopN _ _ _ _ _ _); refine xop_of env_ok rfl 1000 ?_) | ((with_reducible show CallX _ _ _ _ _ _); first | (refine callX (.tup [.int .i64 (k : Nat), .int .i64 (m : Nat)]) (by kernel_rfl) rfl (⟨trivial, trivial, trivial⟩) (fun β w hm => hN w (hw.below hm.below)) ?_)) | ((with_reducible show OpX _ _ _ _); first | (refine opx_build1 (sz := 2) rfl rfl rfl (xs := tokV (k, (s.take (p + m)).drop p)) (fun β => rfl) rfl (by omega) (by omega) hu hsz hzv (fun g1 => ?_)) | (refine opx_append0 (sz := 2) 0 rfl hu hi hz0 hz1 rfl (by omega) rfl rfl rfl (by unfold maxLen; omega) (by rw [hz2]; omega) (by simp [Value.oneCell']) (by omega) (fun g2 cap2 => ?_))) | ((with_reducible show ∃ _ : SV, _); first | fail) | ((with_reducible show ∃ _, _); first | (refine ⟨p, rfl, by omega, ?_⟩) | (refine ⟨p, p + m, rfl, by omega, by omega, by omega, ?_⟩)))
        · rw [q7, hb (by omega)]
          exact ret fun β w' hm => ⟨none, 0, rfl, fun i v h => by simp [toksV] at h, fun _ h => (by cases h), hm.below⟩
        · refine hI _ ⟨⟨true, p + m, f, 1, [(k, (s.take (p + m)).drop p)], tokV (k, (s.take (p + m)).drop p), g2, cap2⟩, ⟨by dsimp only; omega, by dsimp only; omega, by dsimp only; omega, rfl, by dsimp only; omega, rfl, q7.trans (hstep (by omega))⟩, fun h => by cases h⟩ (by dsimp only; omega) (by ((with_reducible show wk _ _); repeat' (first | exact trivial | exact eqSV_refl _ | (refine eqI ?_) | (refine eqS ?_) | (with_reducible exact rfl) | apply And.intro | exact Nat.zero_lt_one | exact Nat.le_of_ble_eq_true rfl | (with_reducible assumption) | ((show (_ : Int) = _); (try dsimp only); omega) | ((show eqSV _ _); simp [eqSV, isB, bval, *]; done) | rfl)); all_goals exact fun b x h => h)
      · dsimp only [rsJ]
        repeat' (first | ((with_reducible first | show wpS _ _ _ _ | show putD _ _ _ _ | show putW _ _ _ _ | show splitG _ _ _ | show wpQ _ _ _ _ _ _ | show wpD _ _ _ _ _ _ _ | show wpX _ _ _ _ _ _ | show expX _ _ _ _ _ _ | show stepX _ _ _ _); conv => whnf) | ((with_reducible show RetN _ _ _); refine retB fun β => ?_) | ((with_reducible show _ ∧ _); first | (apply And.intro; (· intro h; exfalso; first | omega | (revert h; decide)); intro _) | (apply And.intro; rotate_left; (· intro h; exfalso; first | omega | (revert h; decide)); intro _) | (refine ⟨fun _ => ?_, fun _ => ?_⟩) | (apply And.intro; · kernel_rfl) | (apply And.intro; · (show inK _ _; unfold inK; omega)) | (apply And.intro; · (show (_ : Int) ≤ 9223372036854775807; (try simp only [List.length_append, List.length_drop, List.length_take, List.length_cons, List.length_nil]); omega))) | ((with_reducible show bothX _ _); refine bothI ?_ ?_; conv => whnf) | (with_reducible exact trivial) | ((with_reducible show CallN _ _ _ _ _ _ _ _); refine call_of env_ok rfl 1000 ?_) | ((with_reducible show XopN _ _ _ _ _ _); refine xop_of env_ok rfl 1000 ?_) | ((with_reducible show CallX _ _ _ _ _ _); first | (refine callX (.tup [.int .i64 (k : Nat), .int .i64 (m : Nat)]) (by kernel_rfl) rfl (⟨trivial, trivial, trivial⟩) (fun β w hm => hN w (hw.below hm.below)) ?_)) | ((with_reducible show OpX _ _ _ _); first | (refine opx_build1 (sz := 2) rfl rfl rfl (xs := tokV (k, (s.take (p + m)).drop p)) (fun β => rfl) rfl (by omega) (by omega) hu hsz hzv (fun g1 => ?_)) | (refine opx_append (sz := 2) 1 2 rfl hu hi hz0 hz1 rfl (by omega) rfl rfl rfl rfl (by unfold maxLen; omega) (by rw [hz2]; omega) (by simp [Value.oneCell']) (by kernel_rfl) (Nat.zero_le _) (fun g2 cap2 => ?_))) | ((with_reducible show ∃ _ : SV, _); first | fail) | ((with_reducible show ∃ _, _); first | (refine ⟨p, rfl, by omega, ?_⟩) | (refine ⟨p, p + m, rfl, by omega, by omega, by omega, ?_⟩)))
        · rw [q7, hb (by omega)]
          exact ret fun β w' hm => ⟨none, 0, rfl, fun i v h => by simp [toksV] at h, fun _ h => (by cases h), hm.below⟩
        · refine hI _ ⟨⟨true, p + m, f, n + 1, acc ++ [(k, (s.take (p + m)).drop p)], xs ++ tokV (k, (s.take (p + m)).drop p), g2, cap2⟩, ⟨by dsimp only; omega, by dsimp only; omega, by dsimp only; omega, by simp [q4], by dsimp only; omega, by rw [toksV_add, q6], q7.trans (hstep (by omega))⟩, fun h => by cases h⟩ (by dsimp only; omega) (by ((with_reducible show wk _ _); repeat' (first | exact trivial | exact eqSV_refl _ | (refine eqI ?_) | (refine eqS ?_) | (with_reducible exact rfl) | apply And.intro | exact Nat.zero_lt_one | exact Nat.le_of_ble_eq_true rfl | (with_reducible assumption) | ((show (_ : Int) = _); (try dsimp only); omega) | ((show eqSV _ _); simp [eqSV, isB, bval, *]; done) | rfl)); all_goals exact fun b x h => h)
    · rw [q7, ScP.scan_end (by omega)]
      cases st
      · obtain rfl : acc = [] := hst rfl
        dsimp only [rsJ]
        repeat' (first | ((with_reducible first | show wpS _ _ _ _ | show putD _ _ _ _ | show putW _ _ _ _ | show splitG _ _ _ | show wpQ _ _ _ _ _ _ | show wpD _ _ _ _ _ _ _ | show wpX _ _ _ _ _ _ | show expX _ _ _ _ _ _ | show stepX _ _ _ _); conv => whnf) | ((with_reducible show RetN _ _ _); refine retB fun β => ?_) | ((with_reducible show _ ∧ _); first | (apply And.intro; (· intro h; exfalso; first | omega | (revert h; decide)); intro _) | (apply And.intro; rotate_left; (· intro h; exfalso; first | omega | (revert h; decide)); intro _) | (refine ⟨fun _ => ?_, fun _ => ?_⟩) | (apply And.intro; · kernel_rfl) | (apply And.intro; · (show inK _ _; unfold inK; omega)) | (apply And.intro; · (show (_ : Int) ≤ 9223372036854775807; (try simp only [List.length_append, List.length_drop, List.length_take, List.length_cons, List.length_nil]); omega))) | ((with_reducible show bothX _ _); refine bothI ?_ ?_; conv => whnf) | (with_reducible exact trivial) | ((with_reducible show CallN _ _ _ _ _ _ _ _); refine call_of env_ok rfl 1000 ?_) | ((with_reducible show XopN _ _ _ _ _ _); refine xop_of env_ok rfl 1000 ?_) | ((with_reducible show CallX _ _ _ _ _ _); first | fail) | ((with_reducible show OpX _ _ _ _); first | fail) | ((with_reducible show ∃ _ : SV, _); first | fail) | ((with_reducible show ∃ _, _); first | fail))
        exact ret fun β w' hm => ⟨none, 0, rfl, fun i v h => by simp [toksV] at h, fun _ h => (by cases h), hm.below⟩
      · dsimp only [rsJ]
        repeat' (first | ((with_reducible first | show wpS _ _ _ _ | show putD _ _ _ _ | show putW _ _ _ _ | show splitG _ _ _ | show wpQ _ _ _ _ _ _ | show wpD _ _ _ _ _ _ _ | show wpX _ _ _ _ _ _ | show expX _ _ _ _ _ _ | show stepX _ _ _ _); conv => whnf) | ((with_reducible show RetN _ _ _); refine retB fun β => ?_) | ((with_reducible show _ ∧ _); first | (apply And.intro; (· intro h; exfalso; first | omega | (revert h; decide)); intro _) | (apply And.intro; rotate_left; (· intro h; exfalso; first | omega | (revert h; decide)); intro _) | (refine ⟨fun _ => ?_, fun _ => ?_⟩) | (apply And.intro; · kernel_rfl) | (apply And.intro; · (show inK _ _; unfold inK; omega)) | (apply And.intro; · (show (_ : Int) ≤ 9223372036854775807; (try simp only [List.length_append, List.length_drop, List.length_take, List.length_cons, List.length_nil]); omega))) | ((with_reducible show bothX _ _); refine bothI ?_ ?_; conv => whnf) | (with_reducible exact trivial) | ((with_reducible show CallN _ _ _ _ _ _ _ _); refine call_of env_ok rfl 1000 ?_) | ((with_reducible show XopN _ _ _ _ _ _); refine xop_of env_ok rfl 1000 ?_) | ((with_reducible show CallX _ _ _ _ _ _); first | fail) | ((with_reducible show OpX _ _ _ _); first | fail) | ((with_reducible show ∃ _ : SV, _); first | fail) | ((with_reducible show ∃ _, _); first | fail))
        refine ret fun β w' hm => ?_
        obtain ⟨r1, -, -, r4⟩ := hm.row 1 _ _ rfl
        exact ⟨some ⟨g, 0, none⟩, cap, by rw [q4]; rfl, by rw [← q6]; exact r1.2.slAt r1.1, fun ad e => by cases e; rw [← r1.2.1]; exact r4 rfl, hm.below⟩
end Go.Proofs.YtmodjglbjempkaaGreatDoor
namespace Go.Proofs.YtmodjglbjempkaaGreatDoor
open Go.RowKit
open Sym
attribute [local irreducible] Calls
set_option maxRecDepth 100000 in
theorem flatTok : Flat Tryz.prog (Tryz.prog.fieldsOf 33).toList [.int .i64, .str] 0 :=
  flat_of _ _ _ (by kernel_rfl)
abbrev tokF (t : ScP.Tok) : List SV := [.int .i64 (t.1 : Nat), .str t.2]
set_option maxRecDepth 100000 in
theorem tok_eq (k k' : Int) (s s' : List UInt8) (w : World) : (Op.equalIn 10000 33 (.agg #[.int .i64 k, .string (bstr s)]) (.agg #[.int .i64 k', .string (bstr s')])).run Tryz.prog w = .ok (k == k' && s == s') w := by
  rw [agg_eq w 33 _ _ _ (by kernel_rfl) (by kernel_rfl) flatTok rfl rfl]
  simp [ceqs, ceq, bstr_list]
set_option maxRecDepth 100000 in
theorem tokAgg (t : ScP.Tok) : AggEq Tryz.prog 33 (tokF t) (tokF t) true := ⟨by kernel_rfl, fun _ w => (tok_eq _ _ _ _ w).trans (by simp)⟩
theorem refAgg (x : RfP.Ref) : AggEq Tryz.prog 35 (rF x) (rF x) true := by
  have := aggRef x x
  rwa [RfP.eqR_self] at this
abbrev refVs (x : RfP.Ref) : List Value := (refC x).toList
attribute [local irreducible] Sym.AggEq
set_option maxRecDepth 100000 in
set_option maxHeartbeats 2000000 in
theorem eqTok_same (la lb : Option Addr) (ca cb : Nat) (L : List ScP.Tok) (w : World) (ha : SlAt la (L.flatMap tokV) w) (hb : SlAt lb (L.flatMap tokV) w) (hl : L.length ≤ 1000000) : Calls Tryz.prog 13 #[.slice la L.length ca, .slice lb L.length cb] w fun e w' => e = .returned (.bool true) ∧ Below w.heap.size w w' := by
  refine enter env_ok Tryz.func13 rfl Tryz.results13 Tryz.ntmps13 [] [] [.any (.slice la L.length ca), .any (.slice lb L.length cb)] ⟨rfl, rfl, trivial⟩ (Nat.le_of_ble_eq_true rfl) w _ 1000 ?_
  repeat' (first | ((with_reducible first | show wpS _ _ _ _ | show putD _ _ _ _ | show putW _ _ _ _ | show splitG _ _ _ | show wpQ _ _ _ _ _ _ | show wpD _ _ _ _ _ _ _ | show wpX _ _ _ _ _ _ | show expX _ _ _ _ _ _ | show stepX _ _ _ _); conv => whnf) | ((with_reducible show RetN _ _ _); refine retB fun β => ?_) | ((with_reducible show _ ∧ _); first | (apply And.intro; (· intro h; exfalso; first | omega | (revert h; decide)); intro _) | (apply And.intro; rotate_left; (· intro h; exfalso; first | omega | (revert h; decide)); intro _) | (refine ⟨fun _ => ?_, fun _ => ?_⟩) | (apply And.intro; · kernel_rfl) | (apply And.intro; · (show inK _ _; unfold inK; omega)) | (apply And.intro; · (show (_ : Int) ≤ 9223372036854775807; (try simp only [List.length_append, List.length_drop, List.length_take, List.length_cons, List.length_nil]); omega))) | ((with_reducible show bothX _ _); refine bothI ?_ ?_; conv => whnf) | (with_reducible exact trivial) | ((with_reducible show CallN _ _ _ _ _ _ _ _); refine call_of env_ok rfl 1000 ?_) | ((with_reducible show XopN _ _ _ _ _ _); refine xop_of env_ok rfl 1000 ?_) | ((with_reducible show CallX _ _ _ _ _ _); first | fail) | ((with_reducible show OpX _ _ _ _); first | fail) | ((with_reducible show ∃ _ : SV, _); first | (refine ⟨_, ?ok, x_len Tryz.underlying24, ?_⟩; (case ok => exact fun _ _ => trivial))) | ((with_reducible show ∃ _, _); first | fail))
  refine loop env_ok rfl (T := {k : Nat // k ≤ L.length}) (fun t => ⟨[(0, .any (.slice la L.length ca)), (1, .any (.slice lb L.length cb)), (12, .int .i64 (L.length : Nat)), (13, .int .i64 (t.1 : Nat))], [], 0, 26⟩) (fun t => L.length - t.1) ⟨0, Nat.zero_le _⟩ 1000 [] [] (fun _ => Nat.zero_le _) (by ((with_reducible show wk _ _); repeat' (first | exact trivial | exact eqSV_refl _ | (refine eqI ?_) | (refine eqS ?_) | (with_reducible exact rfl) | apply And.intro | exact Nat.zero_lt_one | exact Nat.le_of_ble_eq_true rfl | (with_reducible assumption) | ((show (_ : Int) = _); (try dsimp only); omega) | ((show eqSV _ _); simp [eqSV, isB, bval, *]; done) | rfl))) (fun t I hI => ?_)
  obtain ⟨k, hk⟩ := t
  dsimp only
  by_cases hlt : k < L.length
  · obtain ⟨x, hx⟩ : ∃ x, L[k]? = some x := ⟨L[k], List.getElem?_eq_getElem hlt⟩
    have hat : ∀ m v, (tokV x)[m]? = some v → (L.flatMap tokV)[k * 2 + m]? = some v := fun m v hv => by
      have hm : m < 2 := (List.getElem?_eq_some_iff.1 hv).1
      rw [flat_at (f := tokV) (sz := 2) (fun _ => rfl) L k m x hx hm]; exact hv
    obtain ⟨a1, rfl, -⟩ := ha (k * 2 + 0) _ (hat 0 _ rfl)
    obtain ⟨b1, rfl, -⟩ := hb (k * 2 + 0) _ (hat 0 _ rfl)
    have r1 : ∀ w', Below w.heap.size w w' → ∀ m v, (tokV x)[m]? = some v → w'.cell? ((a1.add (k * 2)).add m) = some v := fun w' hw m v hv => by
      obtain ⟨ad, e, _, hc⟩ := (ha.below hw) _ _ (hat m v hv)
      cases e; rw [Go.Deep.add_add]; exact hc
    have r2 : ∀ w', Below w.heap.size w w' → ∀ m v, (tokV x)[m]? = some v → w'.cell? ((b1.add (k * 2)).add m) = some v := fun w' hw m v hv => by
      obtain ⟨ad, e, _, hc⟩ := (hb.below hw) _ _ (hat m v hv)
      cases e; rw [Go.Deep.add_add]; exact hc
    repeat' (first | ((with_reducible first | show wpS _ _ _ _ | show putD _ _ _ _ | show putW _ _ _ _ | show splitG _ _ _ | show wpQ _ _ _ _ _ _ | show wpD _ _ _ _ _ _ _ | show wpX _ _ _ _ _ _ | show expX _ _ _ _ _ _ | show stepX _ _ _ _); conv => whnf) | ((with_reducible show RetN _ _ _); refine retB fun β => ?_) | ((with_reducible show _ ∧ _); first | (apply And.intro; (· intro h; exfalso; first | omega | (revert h; decide)); intro _) | (apply And.intro; rotate_left; (· intro h; exfalso; first | omega | (revert h; decide)); intro _) | (refine ⟨fun _ => ?_, fun _ => ?_⟩) | (apply And.intro; · kernel_rfl) | (apply And.intro; · (show inK _ _; unfold inK; omega)) | (apply And.intro; · (show (_ : Int) ≤ 9223372036854775807; (try simp only [List.length_append, List.length_drop, List.length_take, List.length_cons, List.length_nil]); omega))) | ((with_reducible show bothX _ _); refine bothI ?_ ?_; conv => whnf) | (with_reducible exact trivial) | ((with_reducible show CallN _ _ _ _ _ _ _ _); refine call_of env_ok rfl 1000 ?_) | ((with_reducible show XopN _ _ _ _ _ _); refine xop_of env_ok rfl 1000 ?_) | ((with_reducible show CallX _ _ _ _ _ _); first | fail) | ((with_reducible show OpX _ _ _ _); first | fail) | ((with_reducible show ∃ _ : SV, _); first | (refine ⟨_, ?ok, x_index (j := k) rfl Tryz.underlying24 (fun w => Tryz.sizeOf33 w) hlt, ?_⟩; (case ok => exact fun _ _ => rfl)) | (refine ⟨.agg (tokF x), fun _ _ => by simp [SV.ok, SV.oks], x_loadAgg (vs := tokF x) (fun w => Tryz.isAgg33 w) (fun w => Tryz.sizeOf33 w) (fun w' hw β m v hv => r1 w' hw m v hv), ?_⟩) | (refine ⟨.agg (tokF x), fun _ _ => by simp [SV.ok, SV.oks], x_loadAgg (vs := tokF x) (fun w => Tryz.isAgg33 w) (fun w => Tryz.sizeOf33 w) (fun w' hw β m v hv => r2 w' hw m v hv), ?_⟩)) | ((with_reducible show ∃ _, _); first | (refine ⟨true, tokAgg x, ?_⟩)))
    all_goals (refine hI _ ⟨k + 1, by omega⟩ (by dsimp only; omega) (by ((with_reducible show wk _ _); repeat' (first | exact trivial | exact eqSV_refl _ | (refine eqI ?_) | (refine eqS ?_) | (with_reducible exact rfl) | apply And.intro | exact Nat.zero_lt_one | exact Nat.le_of_ble_eq_true rfl | (with_reducible assumption) | ((show (_ : Int) = _); (try dsimp only); omega) | ((show eqSV _ _); simp [eqSV, isB, bval, *]; done) | rfl))))
  · repeat' (first | ((with_reducible first | show wpS _ _ _ _ | show putD _ _ _ _ | show putW _ _ _ _ | show splitG _ _ _ | show wpQ _ _ _ _ _ _ | show wpD _ _ _ _ _ _ _ | show wpX _ _ _ _ _ _ | show expX _ _ _ _ _ _ | show stepX _ _ _ _); conv => whnf) | ((with_reducible show RetN _ _ _); refine retB fun β => ?_) | ((with_reducible show _ ∧ _); first | (apply And.intro; (· intro h; exfalso; first | omega | (revert h; decide)); intro _) | (apply And.intro; rotate_left; (· intro h; exfalso; first | omega | (revert h; decide)); intro _) | (refine ⟨fun _ => ?_, fun _ => ?_⟩) | (apply And.intro; · kernel_rfl) | (apply And.intro; · (show inK _ _; unfold inK; omega)) | (apply And.intro; · (show (_ : Int) ≤ 9223372036854775807; (try simp only [List.length_append, List.length_drop, List.length_take, List.length_cons, List.length_nil]); omega))) | ((with_reducible show bothX _ _); refine bothI ?_ ?_; conv => whnf) | (with_reducible exact trivial) | ((with_reducible show CallN _ _ _ _ _ _ _ _); refine call_of env_ok rfl 1000 ?_) | ((with_reducible show XopN _ _ _ _ _ _); refine xop_of env_ok rfl 1000 ?_) | ((with_reducible show CallX _ _ _ _ _ _); first | fail) | ((with_reducible show OpX _ _ _ _); first | fail) | ((with_reducible show ∃ _ : SV, _); first | fail) | ((with_reducible show ∃ _, _); first | fail))
    rfl
set_option maxRecDepth 100000 in
set_option maxHeartbeats 2000000 in
theorem eqRef_same (la lb : Option Addr) (ca cb : Nat) (L : List RfP.Ref) (w : World) (ha : SlAt la (L.flatMap refVs) w) (hb : SlAt lb (L.flatMap refVs) w) (hl : L.length ≤ 1000000) : Calls Tryz.prog 14 #[.slice la L.length ca, .slice lb L.length cb] w fun e w' => e = .returned (.bool true) ∧ Below w.heap.size w w' := by
  refine enter env_ok Tryz.func14 rfl Tryz.results14 Tryz.ntmps14 [] [] [.any (.slice la L.length ca), .any (.slice lb L.length cb)] ⟨rfl, rfl, trivial⟩ (Nat.le_of_ble_eq_true rfl) w _ 1000 ?_
  repeat' (first | ((with_reducible first | show wpS _ _ _ _ | show putD _ _ _ _ | show putW _ _ _ _ | show splitG _ _ _ | show wpQ _ _ _ _ _ _ | show wpD _ _ _ _ _ _ _ | show wpX _ _ _ _ _ _ | show expX _ _ _ _ _ _ | show stepX _ _ _ _); conv => whnf) | ((with_reducible show RetN _ _ _); refine retB fun β => ?_) | ((with_reducible show _ ∧ _); first | (apply And.intro; (· intro h; exfalso; first | omega | (revert h; decide)); intro _) | (apply And.intro; rotate_left; (· intro h; exfalso; first | omega | (revert h; decide)); intro _) | (refine ⟨fun _ => ?_, fun _ => ?_⟩) | (apply And.intro; · kernel_rfl) | (apply And.intro; · (show inK _ _; unfold inK; omega)) | (apply And.intro; · (show (_ : Int) ≤ 9223372036854775807; (try simp only [List.length_append, List.length_drop, List.length_take, List.length_cons, List.length_nil]); omega))) | ((with_reducible show bothX _ _); refine bothI ?_ ?_; conv => whnf) | (with_reducible exact trivial) | ((with_reducible show CallN _ _ _ _ _ _ _ _); refine call_of env_ok rfl 1000 ?_) | ((with_reducible show XopN _ _ _ _ _ _); refine xop_of env_ok rfl 1000 ?_) | ((with_reducible show CallX _ _ _ _ _ _); first | fail) | ((with_reducible show OpX _ _ _ _); first | fail) | ((with_reducible show ∃ _ : SV, _); first | (refine ⟨_, ?ok, x_len Tryz.underlying30, ?_⟩; (case ok => exact fun _ _ => trivial))) | ((with_reducible show ∃ _, _); first | fail))
  refine loop env_ok rfl (T := {k : Nat // k ≤ L.length}) (fun t => ⟨[(0, .any (.slice la L.length ca)), (1, .any (.slice lb L.length cb)), (12, .int .i64 (L.length : Nat)), (13, .int .i64 (t.1 : Nat))], [], 0, 26⟩) (fun t => L.length - t.1) ⟨0, Nat.zero_le _⟩ 1000 [] [] (fun _ => Nat.zero_le _) (by ((with_reducible show wk _ _); repeat' (first | exact trivial | exact eqSV_refl _ | (refine eqI ?_) | (refine eqS ?_) | (with_reducible exact rfl) | apply And.intro | exact Nat.zero_lt_one | exact Nat.le_of_ble_eq_true rfl | (with_reducible assumption) | ((show (_ : Int) = _); (try dsimp only); omega) | ((show eqSV _ _); simp [eqSV, isB, bval, *]; done) | rfl))) (fun t I hI => ?_)
  obtain ⟨k, hk⟩ := t
  dsimp only
  by_cases hlt : k < L.length
  · obtain ⟨x, hx⟩ : ∃ x, L[k]? = some x := ⟨L[k], List.getElem?_eq_getElem hlt⟩
    have hat : ∀ m v, (refVs x)[m]? = some v → (L.flatMap refVs)[k * 10 + m]? = some v := fun m v hv => by
      have hm : m < 10 := (List.getElem?_eq_some_iff.1 hv).1
      rw [flat_at (f := refVs) (sz := 10) (fun _ => rfl) L k m x hx hm]; exact hv
    obtain ⟨a1, rfl, -⟩ := ha (k * 10 + 0) _ (hat 0 _ rfl)
    obtain ⟨b1, rfl, -⟩ := hb (k * 10 + 0) _ (hat 0 _ rfl)
    have r1 : ∀ w', Below w.heap.size w w' → ∀ m v, (refVs x)[m]? = some v → w'.cell? ((a1.add (k * 10)).add m) = some v := fun w' hw m v hv => by
      obtain ⟨ad, e, _, hc⟩ := (ha.below hw) _ _ (hat m v hv)
      cases e; rw [Go.Deep.add_add]; exact hc
    have r2 : ∀ w', Below w.heap.size w w' → ∀ m v, (refVs x)[m]? = some v → w'.cell? ((b1.add (k * 10)).add m) = some v := fun w' hw m v hv => by
      obtain ⟨ad, e, _, hc⟩ := (hb.below hw) _ _ (hat m v hv)
      cases e; rw [Go.Deep.add_add]; exact hc
    repeat' (first | ((with_reducible first | show wpS _ _ _ _ | show putD _ _ _ _ | show putW _ _ _ _ | show splitG _ _ _ | show wpQ _ _ _ _ _ _ | show wpD _ _ _ _ _ _ _ | show wpX _ _ _ _ _ _ | show expX _ _ _ _ _ _ | show stepX _ _ _ _); conv => whnf) | ((with_reducible show RetN _ _ _); refine retB fun β => ?_) | ((with_reducible show _ ∧ _); first | (apply And.intro; (· intro h; exfalso; first | omega | (revert h; decide)); intro _) | (apply And.intro; rotate_left; (· intro h; exfalso; first | omega | (revert h; decide)); intro _) | (refine ⟨fun _ => ?_, fun _ => ?_⟩) | (apply And.intro; · kernel_rfl) | (apply And.intro; · (show inK _ _; unfold inK; omega)) | (apply And.intro; · (show (_ : Int) ≤ 9223372036854775807; (try simp only [List.length_append, List.length_drop, List.length_take, List.length_cons, List.length_nil]); omega))) | ((with_reducible show bothX _ _); refine bothI ?_ ?_; conv => whnf) | (with_reducible exact trivial) | ((with_reducible show CallN _ _ _ _ _ _ _ _); refine call_of env_ok rfl 1000 ?_) | ((with_reducible show XopN _ _ _ _ _ _); refine xop_of env_ok rfl 1000 ?_) | ((with_reducible show CallX _ _ _ _ _ _); first | fail) | ((with_reducible show OpX _ _ _ _); first | fail) | ((with_reducible show ∃ _ : SV, _); first | (refine ⟨_, ?ok, x_index (j := k) rfl Tryz.underlying30 (fun w => Tryz.sizeOf35 w) hlt, ?_⟩; (case ok => exact fun _ _ => rfl)) | (refine ⟨.agg (rF x), fun _ _ => by simp [SV.ok, SV.oks], x_loadAgg (vs := rF x) (fun w => Tryz.isAgg35 w) (fun w => Tryz.sizeOf35 w) (fun w' hw β m v hv => r1 w' hw m v hv), ?_⟩) | (refine ⟨.agg (rF x), fun _ _ => by simp [SV.ok, SV.oks], x_loadAgg (vs := rF x) (fun w => Tryz.isAgg35 w) (fun w => Tryz.sizeOf35 w) (fun w' hw β m v hv => r2 w' hw m v hv), ?_⟩)) | ((with_reducible show ∃ _, _); first | (refine ⟨true, refAgg x, ?_⟩)))
    all_goals (refine hI _ ⟨k + 1, by omega⟩ (by dsimp only; omega) (by ((with_reducible show wk _ _); repeat' (first | exact trivial | exact eqSV_refl _ | (refine eqI ?_) | (refine eqS ?_) | (with_reducible exact rfl) | apply And.intro | exact Nat.zero_lt_one | exact Nat.le_of_ble_eq_true rfl | (with_reducible assumption) | ((show (_ : Int) = _); (try dsimp only); omega) | ((show eqSV _ _); simp [eqSV, isB, bval, *]; done) | rfl))))
  · repeat' (first | ((with_reducible first | show wpS _ _ _ _ | show putD _ _ _ _ | show putW _ _ _ _ | show splitG _ _ _ | show wpQ _ _ _ _ _ _ | show wpD _ _ _ _ _ _ _ | show wpX _ _ _ _ _ _ | show expX _ _ _ _ _ _ | show stepX _ _ _ _); conv => whnf) | ((with_reducible show RetN _ _ _); refine retB fun β => ?_) | ((with_reducible show _ ∧ _); first | (apply And.intro; (· intro h; exfalso; first | omega | (revert h; decide)); intro _) | (apply And.intro; rotate_left; (· intro h; exfalso; first | omega | (revert h; decide)); intro _) | (refine ⟨fun _ => ?_, fun _ => ?_⟩) | (apply And.intro; · kernel_rfl) | (apply And.intro; · (show inK _ _; unfold inK; omega)) | (apply And.intro; · (show (_ : Int) ≤ 9223372036854775807; (try simp only [List.length_append, List.length_drop, List.length_take, List.length_cons, List.length_nil]); omega))) | ((with_reducible show bothX _ _); refine bothI ?_ ?_; conv => whnf) | (with_reducible exact trivial) | ((with_reducible show CallN _ _ _ _ _ _ _ _); refine call_of env_ok rfl 1000 ?_) | ((with_reducible show XopN _ _ _ _ _ _); refine xop_of env_ok rfl 1000 ?_) | ((with_reducible show CallX _ _ _ _ _ _); first | fail) | ((with_reducible show OpX _ _ _ _); first | fail) | ((with_reducible show ∃ _ : SV, _); first | fail) | ((with_reducible show ∃ _, _); first | fail))
    rfl
end Go.Proofs.YtmodjglbjempkaaGreatDoor
namespace Go.Proofs.YtmodjglbjempkaaGreatDoor
open Go.RowKit
open Sym
attribute [local irreducible] Calls Sym.AggEq
namespace ScP
def refsG : List Tok → List RfP.Ref
  | [] => []
  | t :: r => if t.1 = 4 then (RfP.parseP t.2).1 :: refsG r else refsG r
theorem refs_add (l : List Tok) (t : Tok) : refsG (l ++ [t]) = if t.1 = 4 then refsG l ++ [(RfP.parseP t.2).1] else refsG l := by
  induction l with
  | nil => simp only [refsG, List.nil_append]
  | cons u l ih =>
    simp only [refsG, List.cons_append, ih]
    split <;> split <;> simp
theorem refs_len (l : List Tok) : (refsG l).length ≤ l.length := by
  induction l with
  | nil => simp [refsG]
  | cons u l ih => unfold refsG; split <;> simp <;> omega
theorem scanG_len : ∀ (f : Nat) (s : Str) (p : Nat) (acc : List Tok), (scanG f s p acc).1.length ≤ acc.length + f
  | 0, s, p, acc => by unfold scanG; simp
  | f + 1, s, p, acc => by
    unfold scanG
    split
    · split
      · simp
      · have := scanG_len f s (p + (tokP (s.drop p)).2) (acc ++ [((tokP (s.drop p)).1, (s.take (p + (tokP (s.drop p)).2)).drop p)])
        simp at this ⊢; omega
    · simp
theorem scan_len (s : Str) : (scanP s).1.length ≤ s.length + 1 := by
  unfold scanP
  split
  · simpa using scanG_len (s.length + 1) s 1 []
  · simp
theorem take_add {α : Type} (l : List α) (k : Nat) (x : α) (h : l[k]? = some x) : l.take (k + 1) = l.take k ++ [x] := by
  obtain ⟨hk, e⟩ := List.getElem?_eq_some_iff.1 h
  rw [List.take_succ_eq_append_getElem hk, e]
end ScP
def refsV (L : List RfP.Ref) : List Value := L.flatMap refVs
theorem refInfo : (Tryz.prog.info? 35).map (fun i => (i.zero, i.size, i.bytes)) = some (some (.agg #[.string (bstr []), .int .i64 0, .int .i64 0, .int .i64 0, .int .i64 0, .int .i64 0, .bool false, .bool false, .bool false, .bool false]), 10, 64) := by kernel_rfl
theorem one_ref (x : RfP.Ref) : ∀ u ∈ refVs x, u.oneCell' = true := by simp [refVs, refC, Value.oneCell']
structure RgA (L : List ScP.Tok) (k n : Nat) (acc : List RfP.Ref) (xs : List Value) : Prop where
  hk : k ≤ L.length
  hn : n = acc.length
  hx : xs = refsV acc
  eq : ScP.refsG (L.take k) = acc
structure RgT where
  st : Bool
  k : Nat
  n : Nat
  acc : List RfP.Ref
  xs : List Value
  g : Nat
  cap : Nat
theorem rg_next {L : List ScP.Tok} {k n : Nat} {acc : List RfP.Ref} {xs : List Value} {t : ScP.Tok} (h : RgA L k n acc xs) (ht : L[k]? = some t) (h4 : t.1 = 4) : RgA L (k + 1) (n + 1) (acc ++ [(RfP.parseP t.2).1]) (xs ++ refVs (RfP.parseP t.2).1) :=
  ⟨by have := (List.getElem?_eq_some_iff.1 ht).1; omega, by simp [h.hn], by rw [h.hx]; simp [refsV], by rw [ScP.take_add L k t ht, ScP.refs_add, if_pos h4, h.eq]⟩
theorem rg_skip {L : List ScP.Tok} {k n : Nat} {acc : List RfP.Ref} {xs : List Value} {t : ScP.Tok} (h : RgA L k n acc xs) (ht : L[k]? = some t) (h4 : ¬ t.1 = 4) : RgA L (k + 1) n acc xs :=
  ⟨by have := (List.getElem?_eq_some_iff.1 ht).1; omega, h.hn, h.hx, by rw [ScP.take_add L k t ht, ScP.refs_add, if_neg h4, h.eq]⟩
theorem tok_at {L : List ScP.Tok} {k : Nat} {t : ScP.Tok} (h : L[k]? = some t) : ∀ β m v, (SV.dens β (tokF t))[m]? = some v → (toksV L)[k * 2 + m]? = some v := fun β m v hv => by
  have e : SV.dens β (tokF t) = tokV t := rfl
  rw [e] at hv
  have hm : m < 2 := (List.getElem?_eq_some_iff.1 hv).1
  rw [toksV, flat_at (f := tokV) (sz := 2) (fun _ => rfl) L k m t h hm]; exact hv
abbrev rgJ (a : Option Addr) (c0 : Nat) (L : List ScP.Tok) (t : RgT) : St := match t.st with
  | false => ⟨[(6, .any (.slice none 0 0)), (17, .any (.slice a L.length c0)), (18, .int .i64 (L.length : Nat)), (19, .int .i64 (t.k : Nat))], [(0, false, .blob (SlB a (toksV L)))], 1, 38⟩
  | true => ⟨[(6, .any (.slice (some ⟨t.g, 0, none⟩) t.n t.cap)), (17, .any (.slice a L.length c0)), (18, .int .i64 (L.length : Nat)), (19, .int .i64 (t.k : Nat))], [(0, false, .blob (SlB a (toksV L))), (4, true, .blob (OwnS 35 10 t.g t.n t.cap t.xs))], 5, 38⟩
/-- what Refs answers -/
def FRefs (w : World) (R : List RfP.Ref) : Ending → World → Prop := fun e w' => ∃ a cap, e = .returned (.slice a R.length cap) ∧ SlAt a (refsV R) w' ∧ Fresh a w ∧ Below w.heap.size w w'
set_option maxRecDepth 100000 in
set_option maxHeartbeats 4000000 in
theorem Refs_any (s : List UInt8) (w : World) (hs : s.length ≤ 10000) (hw : 0 < w.heap.size) : Calls Tryz.prog 11 #[.string (bstr s)] w (FRefs w (ScP.refsG (ScP.scanP s).1)) := by
  obtain ⟨i0, hi, hz0, hz1, hz2⟩ := info_parts refInfo
  have hu := Tryz.underlying30
  have hsz := fun w => Tryz.sizeOf35 w
  have hzv := fun w => Tryz.zeroValue35 w
  have HS := fun w => fScan_any s w (by omega)
  have hlen := ScP.scan_len s
  generalize ScP.scanP s = R at *
  obtain ⟨L, er⟩ := R
  dsimp only at hlen ⊢
  refine enter env_ok Tryz.func11 rfl Tryz.results11 Tryz.ntmps11 [] [] [.str s] (by simp [SV.oks, SV.ok]) (Nat.le_of_ble_eq_true rfl) w _ 1000 ?_
  repeat' (first | ((with_reducible first | show wpS _ _ _ _ | show putD _ _ _ _ | show putW _ _ _ _ | show splitG _ _ _ | show wpQ _ _ _ _ _ _ | show wpD _ _ _ _ _ _ _ | show wpX _ _ _ _ _ _ | show expX _ _ _ _ _ _ | show stepX _ _ _ _); conv => whnf) | ((with_reducible show RetN _ _ _); refine retB fun β => ?_) | ((with_reducible show _ ∧ _); first | (apply And.intro; (· intro h; exfalso; first | omega | (revert h; decide)); intro _) | (apply And.intro; rotate_left; (· intro h; exfalso; first | omega | (revert h; decide)); intro _) | (refine ⟨fun _ => ?_, fun _ => ?_⟩) | (apply And.intro; · kernel_rfl) | (apply And.intro; · (show inK _ _; unfold inK; omega)) | (apply And.intro; · (show (_ : Int) ≤ 9223372036854775807; (try simp only [List.length_append, List.length_drop, List.length_take, List.length_cons, List.length_nil]); omega))) | ((with_reducible show bothX _ _); refine bothI ?_ ?_; conv => whnf) | (with_reducible exact trivial) | ((with_reducible show CallN _ _ _ _ _ _ _ _); refine call_of env_ok rfl 1000 ?_) | ((with_reducible show XopN _ _ _ _ _ _); refine xop_of env_ok rfl 1000 ?_) | ((with_reducible show CallX _ _ _ _ _ _); first | (refine callSlX (T := Option Addr × Nat) (fun t => .tup [.any (.slice t.1 L.length t.2), .int .i64 ((er.getD 0 : Nat) : Int), .int .i64 (if er = none then 0 else 10)]) (fun t => t.1) (fun _ => toksV L) hw (by kernel_rfl) rfl (fun t => ⟨rfl, trivial, trivial, trivial⟩) (fun β w hm => (HS w).mono (fun e w' ⟨a, cap, he, h1, h2, h3⟩ => ⟨h3, (a, cap), he, h1, h2⟩)) (fun t hA => ?_))) | ((with_reducible show OpX _ _ _ _); first | fail) | ((with_reducible show ∃ _ : SV, _); first | (refine ⟨_, ?ok, x_len Tryz.underlying24, ?_⟩; (case ok => exact fun _ _ => trivial))) | ((with_reducible show ∃ _, _); first | fail))
  obtain ⟨a, c0⟩ := t
  dsimp only at hA ⊢
  refine loop env_ok rfl (T := {t : RgT // RgA L t.k t.n t.acc t.xs ∧ (t.st = false → t.acc = [])}) (fun t => rgJ a c0 L t.1) (fun t => L.length - t.1.k) ⟨⟨false, 0, 0, [], [], 0, 0⟩, ⟨Nat.zero_le _, rfl, rfl, rfl⟩, fun _ => rfl⟩ 1000 [] [] (fun t => by obtain ⟨⟨st, _⟩, _⟩ := t; cases st <;> exact Nat.zero_le _) (by ((with_reducible show wk _ _); repeat' (first | exact trivial | exact eqSV_refl _ | (refine eqI ?_) | (refine eqS ?_) | (with_reducible exact rfl) | apply And.intro | exact Nat.zero_lt_one | exact Nat.le_of_ble_eq_true rfl | (with_reducible assumption) | ((show (_ : Int) = _); (try dsimp only); omega) | ((show eqSV _ _); simp [eqSV, isB, bval, *]; done) | rfl)); all_goals exact fun b x h => h) (fun t I hI => ?_)
  obtain ⟨⟨st, k, n, acc, xs, g, cap⟩, hA1, hst⟩ := t
  dsimp only at hA1 hst
  have hk := hA1.hk
  have hn := hA1.hn
  have hnl : n ≤ 20000 := by
    have := ScP.refs_len (L.take k)
    have := hA1.eq
    rw [hn]; rw [← this]; simp at *; omega
  by_cases hlt : k < L.length
  · obtain ⟨tk, htk⟩ : ∃ tk, L[k]? = some tk := ⟨L[k], List.getElem?_eq_getElem hlt⟩
    have hat := tok_at htk
    obtain ⟨ad, rfl⟩ := hA (by intro e; have := hat (fun _ => 0) 0 _ rfl; rw [e] at this; simp at this)
    have hn1 := rg_next hA1 htk
    have hn2 := rg_skip hA1 htk
    have HP := fun w => Parse_any tk.2 w
    obtain ⟨kd, tx⟩ := tk
    dsimp only at hn1 hn2 HP
    generalize RfP.parseP tx = y at *
    obtain ⟨x, ee⟩ := y
    cases st
    · obtain rfl : acc = [] := hst rfl
      obtain rfl : n = 0 := hn
      obtain rfl : xs = [] := hA1.hx
      dsimp only [rgJ]
      repeat' (first | ((with_reducible first | show wpS _ _ _ _ | show putD _ _ _ _ | show putW _ _ _ _ | show splitG _ _ _ | show wpQ _ _ _ _ _ _ | show wpD _ _ _ _ _ _ _ | show wpX _ _ _ _ _ _ | show expX _ _ _ _ _ _ | show stepX _ _ _ _); conv => whnf) | ((with_reducible show RetN _ _ _); refine retB fun β => ?_) | ((with_reducible show _ ∧ _); first | (apply And.intro; (· intro h; exfalso; first | omega | (revert h; decide)); intro _) | (apply And.intro; rotate_left; (· intro h; exfalso; first | omega | (revert h; decide)); intro _) | (refine ⟨fun _ => ?_, fun _ => ?_⟩) | (apply And.intro; · kernel_rfl) | (apply And.intro; · (show inK _ _; unfold inK; omega)) | (apply And.intro; · (show (_ : Int) ≤ 9223372036854775807; (try simp only [List.length_append, List.length_drop, List.length_take, List.length_cons, List.length_nil]); omega))) | ((with_reducible show bothX _ _); refine bothI ?_ ?_; conv => whnf) | (with_reducible exact trivial) | ((with_reducible show CallN _ _ _ _ _ _ _ _); refine call_of env_ok rfl 1000 ?_) | ((with_reducible show XopN _ _ _ _ _ _); refine xop_of env_ok rfl 1000 ?_) | ((with_reducible show CallX _ _ _ _ _ _); first | (refine callX (.tup [.agg (rF x), .int .i64 ee]) (by kernel_rfl) rfl (⟨rS_ok x _, trivial, trivial⟩) (fun β w hm => HP w) ?_)) | ((with_reducible show OpX _ _ _ _); first | (refine opx_build1 (sz := 10) rfl rfl rfl (xs := refVs x) (fun β => rfl) rfl (by omega) (by omega) hu hsz hzv (fun g1 => ?_)) | (refine opx_append0 (sz := 10) 3 rfl hu hi hz0 hz1 rfl (by omega) rfl rfl rfl (by unfold maxLen; omega) (by rw [hz2]; omega) (one_ref x) (by omega) (fun g2 cap2 => ?_))) | ((with_reducible show ∃ _ : SV, _); first | (refine ⟨_, ?ok, x_index (j := k) rfl Tryz.underlying24 (fun w => Tryz.sizeOf33 w) hlt, ?_⟩; (case ok => exact fun _ _ => rfl)) | (refine ⟨.agg (tokF (kd, tx)), fun _ _ => ⟨trivial, trivial, trivial⟩, x_loadBs 0 (tokF (kd, tx)) (fun w => Tryz.isAgg33 w) (fun w => Tryz.sizeOf33 w) rfl hat, ?_⟩)) | ((with_reducible show ∃ _, _); first | fail))
      · refine hI _ ⟨⟨true, k + 1, 1, [x], refVs x, g2, cap2⟩, hn1 (by have h4 : ((kd : Nat) : Int) = 4 := ‹_›; omega), fun h => by cases h⟩ (by dsimp only; omega) (by ((with_reducible show wk _ _); repeat' (first | exact trivial | exact eqSV_refl _ | (refine eqI ?_) | (refine eqS ?_) | (with_reducible exact rfl) | apply And.intro | exact Nat.zero_lt_one | exact Nat.le_of_ble_eq_true rfl | (with_reducible assumption) | ((show (_ : Int) = _); (try dsimp only); omega) | ((show eqSV _ _); simp [eqSV, isB, bval, *]; done) | rfl)); all_goals exact fun b x h => h)
      · refine hI _ ⟨⟨false, k + 1, 0, [], [], g, cap⟩, hn2 (by have h4 : ¬ ((kd : Nat) : Int) = 4 := ‹_›; omega), fun h => rfl⟩ (by dsimp only; omega) (by ((with_reducible show wk _ _); repeat' (first | exact trivial | exact eqSV_refl _ | (refine eqI ?_) | (refine eqS ?_) | (with_reducible exact rfl) | apply And.intro | exact Nat.zero_lt_one | exact Nat.le_of_ble_eq_true rfl | (with_reducible assumption) | ((show (_ : Int) = _); (try dsimp only); omega) | ((show eqSV _ _); simp [eqSV, isB, bval, *]; done) | rfl)); all_goals exact fun b x h => h)
    · dsimp only [rgJ]
      repeat' (first | ((with_reducible first | show wpS _ _ _ _ | show putD _ _ _ _ | show putW _ _ _ _ | show splitG _ _ _ | show wpQ _ _ _ _ _ _ | show wpD _ _ _ _ _ _ _ | show wpX _ _ _ _ _ _ | show expX _ _ _ _ _ _ | show stepX _ _ _ _); conv => whnf) | ((with_reducible show RetN _ _ _); refine retB fun β => ?_) | ((with_reducible show _ ∧ _); first | (apply And.intro; (· intro h; exfalso; first | omega | (revert h; decide)); intro _) | (apply And.intro; rotate_left; (· intro h; exfalso; first | omega | (revert h; decide)); intro _) | (refine ⟨fun _ => ?_, fun _ => ?_⟩) | (apply And.intro; · kernel_rfl) | (apply And.intro; · (show inK _ _; unfold inK; omega)) | (apply And.intro; · (show (_ : Int) ≤ 9223372036854775807; (try simp only [List.length_append, List.length_drop, List.length_take, List.length_cons, List.length_nil]); omega))) | ((with_reducible show bothX _ _); refine bothI ?_ ?_; conv => whnf) | (with_reducible exact trivial) | ((with_reducible show CallN _ _ _ _ _ _ _ _); refine call_of env_ok rfl 1000 ?_) | ((with_reducible show XopN _ _ _ _ _ _); refine xop_of env_ok rfl 1000 ?_) | ((with_reducible show CallX _ _ _ _ _ _); first | (refine callX (.tup [.agg (rF x), .int .i64 ee]) (by kernel_rfl) rfl (⟨rS_ok x _, trivial, trivial⟩) (fun β w hm => HP w) ?_)) | ((with_reducible show OpX _ _ _ _); first | (refine opx_build1 (sz := 10) rfl rfl rfl (xs := refVs x) (fun β => rfl) rfl (by omega) (by omega) hu hsz hzv (fun g1 => ?_)) | (refine opx_append (sz := 10) 4 7 rfl hu hi hz0 hz1 rfl (by omega) rfl rfl rfl rfl (by unfold maxLen; omega) (by rw [hz2]; omega) (one_ref x) (by kernel_rfl) (Nat.zero_le _) (fun g2 cap2 => ?_))) | ((with_reducible show ∃ _ : SV, _); first | (refine ⟨_, ?ok, x_index (j := k) rfl Tryz.underlying24 (fun w => Tryz.sizeOf33 w) hlt, ?_⟩; (case ok => exact fun _ _ => rfl)) | (refine ⟨.agg (tokF (kd, tx)), fun _ _ => ⟨trivial, trivial, trivial⟩, x_loadBs 0 (tokF (kd, tx)) (fun w => Tryz.isAgg33 w) (fun w => Tryz.sizeOf33 w) rfl hat, ?_⟩)) | ((with_reducible show ∃ _, _); first | fail))
      · refine hI _ ⟨⟨true, k + 1, n + 1, acc ++ [x], xs ++ refVs x, g2, cap2⟩, hn1 (by have h4 : ((kd : Nat) : Int) = 4 := ‹_›; omega), fun h => by cases h⟩ (by dsimp only; omega) (by ((with_reducible show wk _ _); repeat' (first | exact trivial | exact eqSV_refl _ | (refine eqI ?_) | (refine eqS ?_) | (with_reducible exact rfl) | apply And.intro | exact Nat.zero_lt_one | exact Nat.le_of_ble_eq_true rfl | (with_reducible assumption) | ((show (_ : Int) = _); (try dsimp only); omega) | ((show eqSV _ _); simp [eqSV, isB, bval, *]; done) | rfl)); all_goals exact fun b x h => h)
      · refine hI _ ⟨⟨true, k + 1, n, acc, xs, g, cap⟩, hn2 (by have h4 : ¬ ((kd : Nat) : Int) = 4 := ‹_›; omega), fun h => by cases h⟩ (by dsimp only; omega) (by ((with_reducible show wk _ _); repeat' (first | exact trivial | exact eqSV_refl _ | (refine eqI ?_) | (refine eqS ?_) | (with_reducible exact rfl) | apply And.intro | exact Nat.zero_lt_one | exact Nat.le_of_ble_eq_true rfl | (with_reducible assumption) | ((show (_ : Int) = _); (try dsimp only); omega) | ((show eqSV _ _); simp [eqSV, isB, bval, *]; done) | rfl)); all_goals exact fun b x h => h)
  · have hE := hA1.eq
    have hX := hA1.hx
    rw [List.take_of_length_le (by omega)] at hE
    rw [hE]
    cases st
    · obtain rfl : acc = [] := hst rfl
      dsimp only [rgJ]
      repeat' (first | ((with_reducible first | show wpS _ _ _ _ | show putD _ _ _ _ | show putW _ _ _ _ | show splitG _ _ _ | show wpQ _ _ _ _ _ _ | show wpD _ _ _ _ _ _ _ | show wpX _ _ _ _ _ _ | show expX _ _ _ _ _ _ | show stepX _ _ _ _); conv => whnf) | ((with_reducible show RetN _ _ _); refine retB fun β => ?_) | ((with_reducible show _ ∧ _); first | (apply And.intro; (· intro h; exfalso; first | omega | (revert h; decide)); intro _) | (apply And.intro; rotate_left; (· intro h; exfalso; first | omega | (revert h; decide)); intro _) | (refine ⟨fun _ => ?_, fun _ => ?_⟩) | (apply And.intro; · kernel_rfl) | (apply And.intro; · (show inK _ _; unfold inK; omega)) | (apply And.intro; · (show (_ : Int) ≤ 9223372036854775807; (try simp only [List.length_append, List.length_drop, List.length_take, List.length_cons, List.length_nil]); omega))) | ((with_reducible show bothX _ _); refine bothI ?_ ?_; conv => whnf) | (with_reducible exact trivial) | ((with_reducible show CallN _ _ _ _ _ _ _ _); refine call_of env_ok rfl 1000 ?_) | ((with_reducible show XopN _ _ _ _ _ _); refine xop_of env_ok rfl 1000 ?_) | ((with_reducible show CallX _ _ _ _ _ _); first | fail) | ((with_reducible show OpX _ _ _ _); first | fail) | ((with_reducible show ∃ _ : SV, _); first | fail) | ((with_reducible show ∃ _, _); first | fail))
      exact ret fun β w' hm => ⟨none, 0, rfl, fun i v h => by simp [refsV] at h, fun _ h => (by cases h), hm.below⟩
    · dsimp only [rgJ]
      repeat' (first | ((with_reducible first | show wpS _ _ _ _ | show putD _ _ _ _ | show putW _ _ _ _ | show splitG _ _ _ | show wpQ _ _ _ _ _ _ | show wpD _ _ _ _ _ _ _ | show wpX _ _ _ _ _ _ | show expX _ _ _ _ _ _ | show stepX _ _ _ _); conv => whnf) | ((with_reducible show RetN _ _ _); refine retB fun β => ?_) | ((with_reducible show _ ∧ _); first | (apply And.intro; (· intro h; exfalso; first | omega | (revert h; decide)); intro _) | (apply And.intro; rotate_left; (· intro h; exfalso; first | omega | (revert h; decide)); intro _) | (refine ⟨fun _ => ?_, fun _ => ?_⟩) | (apply And.intro; · kernel_rfl) | (apply And.intro; · (show inK _ _; unfold inK; omega)) | (apply And.intro; · (show (_ : Int) ≤ 9223372036854775807; (try simp only [List.length_append, List.length_drop, List.length_take, List.length_cons, List.length_nil]); omega))) | ((with_reducible show bothX _ _); refine bothI ?_ ?_; conv => whnf) | (with_reducible exact trivial) | ((with_reducible show CallN _ _ _ _ _ _ _ _); refine call_of env_ok rfl 1000 ?_) | ((with_reducible show XopN _ _ _ _ _ _); refine xop_of env_ok rfl 1000 ?_) | ((with_reducible show CallX _ _ _ _ _ _); first | fail) | ((with_reducible show OpX _ _ _ _); first | fail) | ((with_reducible show ∃ _ : SV, _); first | fail) | ((with_reducible show ∃ _, _); first | fail))
      refine ret fun β w' hm => ?_
      obtain ⟨r1, -, -, r4⟩ := hm.row 4 _ _ rfl
      exact ⟨some ⟨g, 0, none⟩, cap, by rw [hn]; rfl, by rw [← hX]; exact r1.2.slAt r1.1, fun ad e => by cases e; rw [← r1.2.1]; exact r4 rfl, hm.below⟩
end Go.Proofs.YtmodjglbjempkaaGreatDoor
