/- Values, the program: a number that is entered; 25 percent. Values, the program: the calendar. -/
import Derived.Test.YtdkhkfdenlabaaaGreatDoorVVaW10
import Derived.Test.YtdkhkfdenlabaaaGreatDoorVGH
import Derived.Test.YtdkhkfdenlabaaaGreatDoorVGO
set_option linter.unusedSimpArgs false
set_option linter.unusedVariables false
namespace Go.Proofs.YtdkhkfdenlabaaaGreatDoor
open Go.RowKit
open Sym
attribute [local irreducible] Calls Sym.AggEq ExP.nd ExP.dig ExP.upd ExP.writeF ExP.writeE VaP.ftext
theorem quote_any (s : List UInt8) (w : World) (h : s.head? ≠ some 39) : Calls Tryz.prog 54 #[.string (bstr s), .string (bstr [39])] w fun e w' => e = .returned (.tuple #[.string (bstr s), .bool false]) ∧ Below w.heap.size w w' := by
  refine (Tryz.strings_CutPrefix (bstr s) (bstr [39]) w).mono ?_
  rintro e w' ⟨h', rfl⟩
  refine ⟨?_, Below.refl _ _⟩
  rw [h', show (bstr s).data.toList = s from rfl, show (bstr [39]).data.toList = [39] from rfl]
  have : Lib.hasPrefix s [39] = false := by
    unfold Lib.hasPrefix
    cases s with
    | nil => rfl
    | cons d r =>
      have : ¬ (39 : UInt8) = d := fun e => h (by rw [← e]; rfl)
      simp [List.isPrefixOf, this]
  unfold Lib.trimPrefix
  rw [this, if_neg Bool.false_ne_true]
  rfl
def faultS : List SV := [.str (VaP.ftext 0), .str (VaP.ftext 1), .str (VaP.ftext 2), .str (VaP.ftext 3), .str (VaP.ftext 4), .str (VaP.ftext 5), .str (VaP.ftext 6), .str (VaP.ftext 7), .str (VaP.ftext 8)]
theorem faultS_get (i : Nat) (h : i < 9) : faultS[i]? = some (.str (VaP.ftext i)) := by
  rcases i with _ | _ | _ | _ | _ | _ | _ | _ | _ | i
  all_goals first | (exfalso; omega) | rfl
theorem faultS_oks (n : Nat) : SV.oks n faultS := ⟨trivial, trivial, trivial, trivial, trivial, trivial, trivial, trivial, trivial, trivial⟩
theorem faultS_cell (w : World) (hw : XV w) : ∀ w', Below w.heap.size w w' → ∀ (β : Nat → Nat) (j : Nat) (v : Value), (SV.dens β faultS)[j]? = some v → w'.cell? ((⟨0, 0, none⟩ : Addr).add j) = some v := fun w' hb β j v hv => by
  have hj : j < 9 := by
    have := (List.getElem?_eq_some_iff.1 hv).1
    rwa [SV.dens_len] at this
  have h := (hw.below hb).flt j hj
  rw [SV.dens_get, faultS_get j hj] at hv
  cases hv
  have e : (⟨0, 0, none⟩ : Addr).add j = ⟨0, j, none⟩ := by simp [Addr.add]; omega
  rw [e]; exact h
abbrev readF : List SV := [.fn 56 [], .fn 57 [], .fn 58 [], .fn 59 [], .fn 60 []]
theorem readF_cells : ∀ β, ∀ u ∈ SV.dens β readF, u.cells = #[u] := by
  intro β u hu
  simp only [readF, SV.dens, SV.den, List.mem_cons, List.not_mem_nil, or_false] at hu
  rcases hu with rfl | rfl | rfl | rfl | rfl <;> rfl
set_option maxRecDepth 100000 in
set_option maxHeartbeats 4000000 in
theorem enter_num (s L F1 F2 : List UInt8) (w : World) (hw : XV w) (hs : s ≠ []) (hT : VaP.txtE s = 0) (hl : s.length ≤ 9223372036854775807) (hq : s.head? ≠ some 39)
    (hL : ∀ w', Below w.heap.size w w' → Calls Tryz.prog 55 #[.string (bstr s)] w' fun e w'' => e = .returned (.string (bstr L)) ∧ Below w'.heap.size w' w'')
    (hL1 : L ≠ [116, 114, 117, 101]) (hL2 : L ≠ [102, 97, 108, 115, 101]) (hf : ∀ i, 1 ≤ i → i < 9 → s ≠ VaP.ftext i)
    (hN : ∀ w', Below w.heap.size w w' → Calls Tryz.prog 56 #[.string (bstr s)] w' fun e w'' => e = .returned (.tuple #[frV (F1, F2), .bool true]) ∧ Below w'.heap.size w' w'')
    (hV : ∀ w', Below w.heap.size w w' → Calls Tryz.prog 19 #[frV (F1, F2)] w' (IsV (VaP.numF (F1, F2)) w')) :
    Calls Tryz.prog 11 #[.string (bstr s)] w (IsV (VaP.numF (F1, F2)) w) := by
  have T := fun (w' : World) (h : Below w.heap.size w w') => vtext_any s w' (hw.below h) hl
  rw [hT] at T
  have Q := fun (w' : World) => quote_any s w' hq
  have hfc := faultS_cell w hw
  have hfg := faultS_get
  refine enter env_ok Tryz.func11 rfl Tryz.results11 Tryz.ntmps11 [] [] [.str s] (by simp [SV.oks, SV.ok]) (Nat.le_of_ble_eq_true rfl) w _ 1000 ?_
  repeat' (first | ((with_reducible first | show wpS _ _ _ _ | show putD _ _ _ _ | show putW _ _ _ _ | show splitG _ _ _ | show wpQ _ _ _ _ _ _ | show wpD _ _ _ _ _ _ _ | show wpX _ _ _ _ _ _ _ | show expX _ _ _ _ _ _ | show stepX _ _ _ _ | show keepR _ _ _ | show wpY _ _ _ _); conv => whnf) | ((with_reducible show RetN _ _ _); refine retB fun β => ?_) | ((with_reducible show _ ∧ _); first | (apply And.intro; (· intro h; exfalso; first | omega | (revert h; decide)); intro _) | (apply And.intro; rotate_left; (· intro h; exfalso; first | omega | (revert h; decide)); intro _) | (refine ⟨fun _ => ?_, fun _ => ?_⟩) | (apply And.intro; · kernel_rfl) | (apply And.intro; · (show inK _ _; unfold inK; omega)) | (apply And.intro; · (show (_ : Int) ≤ 9223372036854775807; (try simp only [List.length_append, List.length_drop, List.length_take, List.length_cons, List.length_nil]); omega))) | ((with_reducible show AllBe _); refine allBe fun βe => ?_; conv => whnf) | ((with_reducible show bothX _ _); refine bothI ?_ ?_; conv => whnf) | (with_reducible exact trivial) | ((with_reducible show CallN _ _ _ _ _ _ _ _); refine call_of env_ok rfl 1000 ?_) | ((with_reducible show XopN _ _ _ _ _ _); refine xop_of env_ok rfl 1000 ?_) | ((with_reducible show CallX _ _ _ _ _ _); first | (refine callX (.int .i64 0) (by kernel_rfl) rfl (trivial) (fun β w hm => T w hm.below) ?_) | (refine callX (.tup [.str s, .lit false]) (by kernel_rfl) rfl (⟨trivial, trivial, trivial⟩) (fun β w hm => Q w) ?_) | (refine callX (.str L) (by kernel_rfl) rfl (trivial) (fun β w hm => hL w hm.below) ?_)) | ((with_reducible show OpX _ _ _ _); first | fail) | ((with_reducible show ∃ _ : SV, _); first | (refine ⟨.agg faultS, ?ok, x_loadAgg (vs := faultS) (fun w => Tryz.isAgg81 w) (fun w => Tryz.sizeOf81 w) hfc, ?_⟩; (case ok => exact fun _ _ => faultS_oks _))) | ((with_reducible show ∃ _, _); first | fail))
  all_goals first | (exfalso; contradiction) | skip
  refine loop env_ok rfl (T := {i : Nat // i ≤ 9}) (fun t => ⟨[(0, .str s), (2, .ptr 0 0), (38, .agg faultS), (39, .int .i64 (t.1 : Nat))], [(0, true, .cells 28 [.int .i64 0, .str [], .str [], .str [], .lit false, .int .i64 0, .int .i64 0, .int .i64 0, .any (.slice none 0 0)])], 1, 69⟩) (fun t => 9 - t.1) ⟨0, Nat.zero_le _⟩ 1000 [] [] (fun _ => Nat.zero_le _) (by ((with_reducible show wk _ _); repeat' (first | exact trivial | exact eqSV_refl _ | (refine eqI ?_) | (refine eqS ?_) | (with_reducible exact rfl) | apply And.intro | exact Nat.zero_lt_one | exact Nat.le_of_ble_eq_true rfl | (with_reducible assumption) | ((show (_ : Int) = _); (try dsimp only); omega) | ((show eqSV _ _); simp [eqSV, isB, bval, *]; done) | rfl))) (fun t I hI => ?_)
  obtain ⟨i, hi⟩ := t
  dsimp only
  by_cases hlt : i < 9
  · have hg := hfg i hlt
    have hne := hf i
    generalize VaP.ftext i = X at *
    repeat' (first | ((with_reducible first | show wpS _ _ _ _ | show putD _ _ _ _ | show putW _ _ _ _ | show splitG _ _ _ | show wpQ _ _ _ _ _ _ | show wpD _ _ _ _ _ _ _ | show wpX _ _ _ _ _ _ _ | show expX _ _ _ _ _ _ | show stepX _ _ _ _ | show keepR _ _ _ | show wpY _ _ _ _); conv => whnf) | ((with_reducible show RetN _ _ _); refine retB fun β => ?_) | ((with_reducible show _ ∧ _); first | (apply And.intro; (· intro h; exfalso; first | omega | (revert h; decide)); intro _) | (apply And.intro; rotate_left; (· intro h; exfalso; first | omega | (revert h; decide)); intro _) | (refine ⟨fun _ => ?_, fun _ => ?_⟩) | (apply And.intro; · kernel_rfl) | (apply And.intro; · (show inK _ _; unfold inK; omega)) | (apply And.intro; · (show (_ : Int) ≤ 9223372036854775807; (try simp only [List.length_append, List.length_drop, List.length_take, List.length_cons, List.length_nil]); omega))) | ((with_reducible show AllBe _); refine allBe fun βe => ?_; conv => whnf) | ((with_reducible show bothX _ _); refine bothI ?_ ?_; conv => whnf) | (with_reducible exact trivial) | ((with_reducible show CallN _ _ _ _ _ _ _ _); refine call_of env_ok rfl 1000 ?_) | ((with_reducible show XopN _ _ _ _ _ _); refine xop_of env_ok rfl 1000 ?_) | ((with_reducible show CallX _ _ _ _ _ _); first | fail) | ((with_reducible show OpX _ _ _ _); first | fail) | ((with_reducible show ∃ _ : SV, _); first | (refine ⟨.str X, ?ok, x_indexAgg (j := i) Tryz.underlying81 (fun w => Tryz.sizeOf9 w) (fun w => Tryz.isAgg9 w) hlt hg, ?_⟩; (case ok => exact fun _ _ => trivial))) | ((with_reducible show ∃ _, _); first | fail))
    all_goals first | (exfalso; omega) | (exfalso; exact hne (by omega) hlt (by assumption)) | (refine hI _ ⟨i + 1, by omega⟩ (by dsimp only; omega) (by ((with_reducible show wk _ _); repeat' (first | exact trivial | exact eqSV_refl _ | (refine eqI ?_) | (refine eqS ?_) | (with_reducible exact rfl) | apply And.intro | exact Nat.zero_lt_one | exact Nat.le_of_ble_eq_true rfl | (with_reducible assumption) | ((show (_ : Int) = _); (try dsimp only); omega) | ((show eqSV _ _); simp [eqSV, isB, bval, *]; done) | rfl))); done) | trace_state
  · repeat' (first | ((with_reducible first | show wpS _ _ _ _ | show putD _ _ _ _ | show putW _ _ _ _ | show splitG _ _ _ | show wpQ _ _ _ _ _ _ | show wpD _ _ _ _ _ _ _ | show wpX _ _ _ _ _ _ _ | show expX _ _ _ _ _ _ | show stepX _ _ _ _ | show keepR _ _ _ | show wpY _ _ _ _); conv => whnf) | ((with_reducible show RetN _ _ _); refine retB fun β => ?_) | ((with_reducible show _ ∧ _); first | (apply And.intro; (· intro h; exfalso; first | omega | (revert h; decide)); intro _) | (apply And.intro; rotate_left; (· intro h; exfalso; first | omega | (revert h; decide)); intro _) | (refine ⟨fun _ => ?_, fun _ => ?_⟩) | (apply And.intro; · kernel_rfl) | (apply And.intro; · (show inK _ _; unfold inK; omega)) | (apply And.intro; · (show (_ : Int) ≤ 9223372036854775807; (try simp only [List.length_append, List.length_drop, List.length_take, List.length_cons, List.length_nil]); omega))) | ((with_reducible show AllBe _); refine allBe fun βe => ?_; conv => whnf) | ((with_reducible show bothX _ _); refine bothI ?_ ?_; conv => whnf) | (with_reducible exact trivial) | ((with_reducible show CallN _ _ _ _ _ _ _ _); refine call_of env_ok rfl 1000 ?_) | ((with_reducible show XopN _ _ _ _ _ _); refine xop_of env_ok rfl 1000 ?_) | ((with_reducible show CallX _ _ _ _ _ _); first | fail) | ((with_reducible show OpX _ _ _ _); first | fail) | ((with_reducible show ∃ _ : SV, _); first | (refine ⟨.agg readF, ?ok, x_buildArr rfl Tryz.underlying83 (fun w => Tryz.sizeOf82 w) (fun w => Tryz.zeroValue83 w) rfl readF_cells, ?_⟩; (case ok => exact fun _ h => h))) | ((with_reducible show ∃ _, _); first | fail))
    all_goals first | (exfalso; omega) | skip
    refine loop env_ok rfl (T := Unit) (fun t => ⟨[(0, .str s), (2, .ptr 0 0), (53, .agg readF), (54, .int .i64 0)], [(0, true, .cells 28 [.int .i64 0, .str [], .str [], .str [], .lit false, .int .i64 0, .int .i64 0, .int .i64 0, .any (.slice none 0 0)])], 1, 69⟩) (fun t => 0) () 1000 [] [] (fun _ => Nat.zero_le _) (by ((with_reducible show wk _ _); repeat' (first | exact trivial | exact eqSV_refl _ | (refine eqI ?_) | (refine eqS ?_) | (with_reducible exact rfl) | apply And.intro | exact Nat.zero_lt_one | exact Nat.le_of_ble_eq_true rfl | (with_reducible assumption) | ((show (_ : Int) = _); (try dsimp only); omega) | ((show eqSV _ _); simp [eqSV, isB, bval, *]; done) | rfl))) (fun t I hI => ?_)
    repeat' (first | ((with_reducible first | show wpS _ _ _ _ | show putD _ _ _ _ | show putW _ _ _ _ | show splitG _ _ _ | show wpQ _ _ _ _ _ _ | show wpD _ _ _ _ _ _ _ | show wpX _ _ _ _ _ _ _ | show expX _ _ _ _ _ _ | show stepX _ _ _ _ | show keepR _ _ _ | show wpY _ _ _ _); conv => whnf) | ((with_reducible show RetN _ _ _); refine retB fun β => ?_) | ((with_reducible show _ ∧ _); first | (apply And.intro; (· intro h; exfalso; first | omega | (revert h; decide)); intro _) | (apply And.intro; rotate_left; (· intro h; exfalso; first | omega | (revert h; decide)); intro _) | (refine ⟨fun _ => ?_, fun _ => ?_⟩) | (apply And.intro; · kernel_rfl) | (apply And.intro; · (show inK _ _; unfold inK; omega)) | (apply And.intro; · (show (_ : Int) ≤ 9223372036854775807; (try simp only [List.length_append, List.length_drop, List.length_take, List.length_cons, List.length_nil]); omega))) | ((with_reducible show AllBe _); refine allBe fun βe => ?_; conv => whnf) | ((with_reducible show bothX _ _); refine bothI ?_ ?_; conv => whnf) | (with_reducible exact trivial) | ((with_reducible show CallN _ _ _ _ _ _ _ _); refine call_of env_ok rfl 1000 ?_) | ((with_reducible show XopN _ _ _ _ _ _); refine xop_of env_ok rfl 1000 ?_) | ((with_reducible show CallX _ _ _ _ _ _); first | (refine callX (.tup [.agg [.str F1, .str F2], .lit true]) (by kernel_rfl) rfl (⟨⟨trivial, trivial, trivial⟩, trivial, trivial⟩) (fun β w hm => hN w hm.below) ?_) | (refine callX (.agg [.int .i64 1, .str F1, .str F2, .str [], .lit false, .int .i64 0, .int .i64 0, .int .i64 0, .any (.slice none 0 0)]) (by kernel_rfl) rfl (⟨trivial, trivial, trivial, trivial, trivial, trivial, trivial, trivial, rfl, trivial⟩) (fun β w hm => hV w hm.below) ?_)) | ((with_reducible show OpX _ _ _ _); first | fail) | ((with_reducible show ∃ _ : SV, _); first | (refine ⟨.fn 56 [], ?ok, x_indexAgg (j := 0) Tryz.underlying83 (fun w => Tryz.sizeOf82 w) (fun w => Tryz.isAgg82 w) (by omega) rfl, ?_⟩; (case ok => exact fun _ _ => trivial))) | ((with_reducible show ∃ _, _); first | fail))
    all_goals first | (exfalso; omega) | rfl | trace_state
end Go.Proofs.YtdkhkfdenlabaaaGreatDoor
namespace Go.Proofs.YtdkhkfdenlabaaaGreatDoor
open Go.RowKit
open Sym
attribute [local irreducible] Calls Sym.AggEq ExP.nd ExP.dig ExP.upd ExP.writeF ExP.writeE
set_option maxRecDepth 100000 in
theorem before_any (y : Nat) (w : World) (h1 : 1900 ≤ y) (h2 : y ≤ 20000) : Calls Tryz.prog 80 #[.int .i64 (y : Int)] w fun e w' => e = .returned (.int .i64 (VaP.bef y : Nat)) ∧ Below w.heap.size w w' := by
  rw [VaP.bef_int h1]
  refine enter env_ok Tryz.func80 rfl Tryz.results80 Tryz.ntmps80 [] [] [.int .i64 (y : Int)] (by simp [SV.oks, SV.ok]) (Nat.le_of_ble_eq_true rfl) w _ 1000 ?_
  repeat' (first | ((with_reducible first | show wpS _ _ _ _ | show putD _ _ _ _ | show putW _ _ _ _ | show splitG _ _ _ | show wpQ _ _ _ _ _ _ | show wpD _ _ _ _ _ _ _ | show wpX _ _ _ _ _ _ _ | show expX _ _ _ _ _ _ | show stepX _ _ _ _ | show keepR _ _ _ | show wpY _ _ _ _); conv => whnf) | ((with_reducible show RetN _ _ _); refine retB fun β => ?_) | ((with_reducible show _ ∧ _); first | (apply And.intro; (· intro h; exfalso; first | omega | (revert h; decide)); intro _) | (apply And.intro; rotate_left; (· intro h; exfalso; first | omega | (revert h; decide)); intro _) | (refine ⟨fun _ => ?_, fun _ => ?_⟩) | (apply And.intro; · kernel_rfl) | (apply And.intro; · (show inK _ _; unfold inK; omega)) | (apply And.intro; · (show (_ : Int) ≤ 9223372036854775807; (try simp only [List.length_append, List.length_drop, List.length_take, List.length_cons, List.length_nil]); omega))) | ((with_reducible show AllBe _); refine allBe fun βe => ?_; conv => whnf) | ((with_reducible show bothX _ _); refine bothI ?_ ?_; conv => whnf) | (with_reducible exact trivial) | ((with_reducible show CallN _ _ _ _ _ _ _ _); refine call_of env_ok rfl 1000 ?_) | ((with_reducible show XopN _ _ _ _ _ _); refine xop_of env_ok rfl 1000 ?_) | ((with_reducible show CallX _ _ _ _ _ _); first | fail) | ((with_reducible show OpX _ _ _ _); first | fail) | ((with_reducible show ∃ _ : SV, _); first | (refine ⟨_, ?ok, x_quo (by omega) (by omega) (by simp only [inK]; omega), ?_⟩; (case ok => exact fun _ _ => trivial))) | ((with_reducible show ∃ _, _); first | fail))
  all_goals first | rfl | (simp only [SV.den]; done) | (simp only [SV.den]; congr 1; omega)
set_option maxRecDepth 100000 in
theorem lengths_any (y F : Nat) (w : World) (h2 : y ≤ 20000) (hF : F = VaP.mdays y 2) : Calls Tryz.prog 79 #[.int .i64 (y : Int)] w fun e w' => e = .returned (.agg #[.int .i64 31, .int .i64 (F : Nat), .int .i64 31, .int .i64 30, .int .i64 31, .int .i64 30, .int .i64 31, .int .i64 31, .int .i64 30, .int .i64 31, .int .i64 30, .int .i64 31]) ∧ Below w.heap.size w w' := by
  have hF' : F = if VaP.leap y then 29 else 28 := hF
  unfold VaP.leap at hF'
  refine enter env_ok Tryz.func79 rfl Tryz.results79 Tryz.ntmps79 [] [] [.int .i64 (y : Int)] (by simp [SV.oks, SV.ok]) (Nat.le_of_ble_eq_true rfl) w _ 1000 ?_
  repeat' (first | ((with_reducible first | show wpS _ _ _ _ | show putD _ _ _ _ | show putW _ _ _ _ | show splitG _ _ _ | show wpQ _ _ _ _ _ _ | show wpD _ _ _ _ _ _ _ | show wpX _ _ _ _ _ _ _ | show expX _ _ _ _ _ _ | show stepX _ _ _ _ | show keepR _ _ _ | show wpY _ _ _ _); conv => whnf) | ((with_reducible show RetN _ _ _); refine retB fun β => ?_) | ((with_reducible show _ ∧ _); first | (apply And.intro; (· intro h; exfalso; first | omega | (revert h; decide)); intro _) | (apply And.intro; rotate_left; (· intro h; exfalso; first | omega | (revert h; decide)); intro _) | (refine ⟨fun _ => ?_, fun _ => ?_⟩) | (apply And.intro; · kernel_rfl) | (apply And.intro; · (show inK _ _; unfold inK; omega)) | (apply And.intro; · (show (_ : Int) ≤ 9223372036854775807; (try simp only [List.length_append, List.length_drop, List.length_take, List.length_cons, List.length_nil]); omega))) | ((with_reducible show AllBe _); refine allBe fun βe => ?_; conv => whnf) | ((with_reducible show bothX _ _); refine bothI ?_ ?_; conv => whnf) | (with_reducible exact trivial) | ((with_reducible show CallN _ _ _ _ _ _ _ _); refine call_of env_ok rfl 1000 ?_) | ((with_reducible show XopN _ _ _ _ _ _); refine xop_of env_ok rfl 1000 ?_) | ((with_reducible show CallX _ _ _ _ _ _); first | fail) | ((with_reducible show OpX _ _ _ _); first | fail) | ((with_reducible show ∃ _ : SV, _); first | (refine ⟨_, ?ok, x_buildArr rfl Tryz.underlying95 (fun w => Tryz.sizeOf3 w) (fun w => Tryz.zeroValue95 w) rfl (allInt_cells rfl), ?_⟩; (case ok => exact fun _ h => h)) | (refine ⟨_, ?ok, x_rem (by omega) (by omega), ?_⟩; (case ok => exact fun _ _ => trivial)) | (refine ⟨_, ?ok, x_indexPtrI (j := 1) (by rfl) Tryz.underlying95 (fun w => Tryz.sizeOf3 w) (by omega), ?_⟩; (case ok => exact fun n h => h.1))) | ((with_reducible show ∃ _, _); first | fail))
  all_goals first | (have e : F = 29 := by { rw [hF']; simp; omega }; subst e; rfl) | (have e : F = 28 := by { rw [hF']; simp; omega }; subst e; rfl) | trace_state
def VaP.dayL (y : Nat) : List Value := [.int .i64 31, .int .i64 (VaP.mdays y 2 : Nat), .int .i64 31, .int .i64 30, .int .i64 31, .int .i64 30, .int .i64 31, .int .i64 31, .int .i64 30, .int .i64 31, .int .i64 30, .int .i64 31]
theorem dayL_get (y i : Nat) (h : i < 12) : (VaP.dayL y)[i]? = some (.int .i64 (VaP.mdays y (i + 1) : Nat)) := by
  rcases i with _ | _ | _ | _ | _ | _ | _ | _ | _ | _ | _ | _ | i
  all_goals first | (exfalso; omega) | rfl
/-- the lengths of the months as the walk knows them -/
abbrev dayS (F : Nat) : List SV := [.int .i64 31, .int .i64 (F : Nat), .int .i64 31, .int .i64 30, .int .i64 31, .int .i64 30, .int .i64 31, .int .i64 31, .int .i64 30, .int .i64 31, .int .i64 30, .int .i64 31]
theorem dayS_dens (y : Nat) (β : Nat → Nat) : SV.dens β (dayS (VaP.mdays y 2)) = VaP.dayL y := rfl
theorem dayS_get (y i : Nat) (h : i < 12) : (dayS (VaP.mdays y 2))[i]? = some (.int .i64 (VaP.mdays y (i + 1) : Nat)) := by
  rcases i with _ | _ | _ | _ | _ | _ | _ | _ | _ | _ | _ | _ | i
  all_goals first | (exfalso; omega) | rfl
set_option maxRecDepth 100000 in
theorem day_no (y m d : Int) (w : World) (h : y < 1900 ∨ 9999 < y ∨ m < 1 ∨ 12 < m) : Calls Tryz.prog 29 #[.int .i64 y, .int .i64 m, .int .i64 d] w fun e w' => e = .returned (.tuple #[.int .i64 0, .bool false]) ∧ Below w.heap.size w w' := by
  refine enter env_ok Tryz.func29 rfl Tryz.results29 Tryz.ntmps29 [] [] [.int .i64 y, .int .i64 m, .int .i64 d] (by simp [SV.oks, SV.ok]) (Nat.le_of_ble_eq_true rfl) w _ 1000 ?_
  repeat' (first | ((with_reducible first | show wpS _ _ _ _ | show putD _ _ _ _ | show putW _ _ _ _ | show splitG _ _ _ | show wpQ _ _ _ _ _ _ | show wpD _ _ _ _ _ _ _ | show wpX _ _ _ _ _ _ _ | show expX _ _ _ _ _ _ | show stepX _ _ _ _ | show keepR _ _ _ | show wpY _ _ _ _); conv => whnf) | ((with_reducible show RetN _ _ _); refine retB fun β => ?_) | ((with_reducible show _ ∧ _); first | (apply And.intro; (· intro h; exfalso; first | omega | (revert h; decide)); intro _) | (apply And.intro; rotate_left; (· intro h; exfalso; first | omega | (revert h; decide)); intro _) | (refine ⟨fun _ => ?_, fun _ => ?_⟩) | (apply And.intro; · kernel_rfl) | (apply And.intro; · (show inK _ _; unfold inK; omega)) | (apply And.intro; · (show (_ : Int) ≤ 9223372036854775807; (try simp only [List.length_append, List.length_drop, List.length_take, List.length_cons, List.length_nil]); omega))) | ((with_reducible show AllBe _); refine allBe fun βe => ?_; conv => whnf) | ((with_reducible show bothX _ _); refine bothI ?_ ?_; conv => whnf) | (with_reducible exact trivial) | ((with_reducible show CallN _ _ _ _ _ _ _ _); refine call_of env_ok rfl 1000 ?_) | ((with_reducible show XopN _ _ _ _ _ _); refine xop_of env_ok rfl 1000 ?_) | ((with_reducible show CallX _ _ _ _ _ _); first | fail) | ((with_reducible show OpX _ _ _ _); first | fail) | ((with_reducible show ∃ _ : SV, _); first | fail) | ((with_reducible show ∃ _, _); first | fail))
  all_goals first | rfl | (exfalso; omega)
set_option maxRecDepth 100000 in
set_option maxHeartbeats 1000000 in
theorem day_in (y m : Nat) (d : Int) (w : World) (h1 : 1900 ≤ y) (h2 : y ≤ 9999) (h3 : m < 12) (D : Nat) (hD : D = VaP.mdays y (m + 1)) (n : Int) (ok : Bool) (hn : n = if 1 ≤ d ∧ d ≤ D then ((VaP.bef y + VaP.msum y m : Nat) : Int) + d else 0) (hok : ok = decide (1 ≤ d ∧ d ≤ D)) :
    Calls Tryz.prog 29 #[.int .i64 (y : Int), .int .i64 ((m + 1 : Nat) : Int), .int .i64 d] w fun e w' => e = .returned (.tuple #[.int .i64 n, .bool ok]) ∧ Below w.heap.size w w' := by
  have L := fun (w' : World) => lengths_any y _ w' (by omega) rfl
  have B := fun (w' : World) => before_any y w' h1 (by omega)
  have hbl : VaP.bef y ≤ 2958464 := by
    have e4 := (VaP.bef_mono h1 (10000 - y)).1
    rw [show y + (10000 - y) = 10000 by omega, VaP.bef_end] at e4
    omega
  have hms := VaP.msum_le y
  have hD31 := VaP.mdays_le y (m + 1)
  rw [← hD] at hD31
  have hg := dayL_get y
  have hgs := dayS_get y
  have hds := dayS_dens y
  have hst : ∀ i, VaP.msum y (i + 1) = VaP.msum y i + VaP.mdays y (i + 1) := fun _ => rfl
  have hz : VaP.msum y 0 = 0 := rfl
  have hll : (VaP.dayL y).length = 12 := rfl
  have hml := VaP.mdays_le y
  generalize VaP.dayL y = DL at *
  generalize VaP.msum y = MS at *
  generalize VaP.bef y = BY at *
  generalize VaP.mdays y = MD at *
  refine enter env_ok Tryz.func29 rfl Tryz.results29 Tryz.ntmps29 [100035, 100044] [] [.int .i64 (y : Int), .int .i64 ((m + 1 : Nat) : Int), .int .i64 d] (by simp [SV.oks, SV.ok]) (Nat.le_of_ble_eq_true rfl) w _ 1000 ?_
  have hgo := hgs m h3
  rw [← hD] at hgo
  repeat' (first | ((with_reducible first | show wpS _ _ _ _ | show putD _ _ _ _ | show putW _ _ _ _ | show splitG _ _ _ | show wpQ _ _ _ _ _ _ | show wpD _ _ _ _ _ _ _ | show wpX _ _ _ _ _ _ _ | show expX _ _ _ _ _ _ | show stepX _ _ _ _ | show keepR _ _ _ | show wpY _ _ _ _); conv => whnf) | ((with_reducible show RetN _ _ _); refine retB fun β => ?_) | ((with_reducible show _ ∧ _); first | (apply And.intro; (· intro h; exfalso; first | omega | (revert h; decide)); intro _) | (apply And.intro; rotate_left; (· intro h; exfalso; first | omega | (revert h; decide)); intro _) | (refine ⟨fun _ => ?_, fun _ => ?_⟩) | (apply And.intro; · kernel_rfl) | (apply And.intro; · (show inK _ _; unfold inK; omega)) | (apply And.intro; · (show (_ : Int) ≤ 9223372036854775807; (try simp only [List.length_append, List.length_drop, List.length_take, List.length_cons, List.length_nil]); omega))) | ((with_reducible show AllBe _); refine allBe fun βe => ?_; conv => whnf) | ((with_reducible show bothX _ _); refine bothI ?_ ?_; conv => whnf) | (with_reducible exact trivial) | ((with_reducible show CallN _ _ _ _ _ _ _ _); refine call_of env_ok rfl 1000 ?_) | ((with_reducible show XopN _ _ _ _ _ _); refine xop_of env_ok rfl 1000 ?_) | ((with_reducible show CallX _ _ _ _ _ _); first | (refine callX (.agg (dayS (MD 2))) (by kernel_rfl) rfl (⟨trivial, trivial, trivial, trivial, trivial, trivial, trivial, trivial, trivial, trivial, trivial, trivial, trivial⟩) (fun β w hm => L w) ?_) | (refine callX (.int .i64 (BY : Nat)) (by kernel_rfl) rfl (trivial) (fun β w hm => B w) ?_)) | ((with_reducible show OpX _ _ _ _); first | (refine opx_loadC (.int .i64 (D : Nat)) rfl (fun w => Tryz.isAgg3 w) rfl rfl (by rw [Nat.zero_add, Nat.mul_one]; exact hgo) ?_) | (refine opx_arr (j := m) DL rfl rfl rfl (by omega) rfl Tryz.underlying95 (fun w => Tryz.sizeOf3 w) hds hll (by unfold maxLen; omega) (by omega) (fun g => ?_))) | ((with_reducible show ∃ _ : SV, _); first | (refine ⟨_, ?ok, x_indexPtrI (j := m) (by omega) Tryz.underlying95 (fun w => Tryz.sizeOf3 w) (by omega), ?_⟩; (case ok => exact fun n h => h.1)) | (refine ⟨_, ?ok, x_len Tryz.underlying69, ?_⟩; (case ok => exact fun _ _ => trivial))) | ((with_reducible show ∃ _, _); first | fail))
  all_goals first | (have e : ¬ (1 ≤ d ∧ d ≤ (D : Int)) := by { omega }; rw [hn, hok, if_neg e, decide_eq_false e]; rfl) | skip
  have e : 1 ≤ d ∧ d ≤ (D : Int) := by omega
  rw [if_pos e] at hn
  rw [decide_eq_true e] at hok
  subst hok
  have hme := hms m
  refine loop env_ok rfl (T := {i : Nat // i ≤ m}) (fun t => ⟨[(9, .int .i64 ((BY : Int) + d + (MS t.1 : Nat))), (44, .any (.slice (some ⟨g, 0, none⟩) m 12)), (45, .int .i64 (m : Nat)), (46, .int .i64 (t.1 : Nat))], [(0, true, .blob (OwnS 95 1 g 12 12 DL))], 1, 55⟩) (fun t => m - t.1) ⟨0, Nat.zero_le _⟩ 1000 [] [] (fun _ => Nat.zero_le _) (by ((with_reducible show wk _ _); repeat' (first | exact trivial | exact eqSV_refl _ | (refine eqI ?_) | (refine eqS ?_) | (with_reducible exact rfl) | apply And.intro | exact Nat.zero_lt_one | exact Nat.le_of_ble_eq_true rfl | (with_reducible assumption) | ((show (_ : Int) = _); (try dsimp only); omega) | ((show eqSV _ _); simp [eqSV, isB, bval, *]; done) | rfl)); all_goals exact fun b x h => h) (fun t I hI => ?_)
  obtain ⟨i, hi⟩ := t
  dsimp only
  have hsi := hst i
  have hmi := hms i
  have hmm := hml (i + 1)
  by_cases hlt : i < m
  · repeat' (first | ((with_reducible first | show wpS _ _ _ _ | show putD _ _ _ _ | show putW _ _ _ _ | show splitG _ _ _ | show wpQ _ _ _ _ _ _ | show wpD _ _ _ _ _ _ _ | show wpX _ _ _ _ _ _ _ | show expX _ _ _ _ _ _ | show stepX _ _ _ _ | show keepR _ _ _ | show wpY _ _ _ _); conv => whnf) | ((with_reducible show RetN _ _ _); refine retB fun β => ?_) | ((with_reducible show _ ∧ _); first | (apply And.intro; (· intro h; exfalso; first | omega | (revert h; decide)); intro _) | (apply And.intro; rotate_left; (· intro h; exfalso; first | omega | (revert h; decide)); intro _) | (refine ⟨fun _ => ?_, fun _ => ?_⟩) | (apply And.intro; · kernel_rfl) | (apply And.intro; · (show inK _ _; unfold inK; omega)) | (apply And.intro; · (show (_ : Int) ≤ 9223372036854775807; (try simp only [List.length_append, List.length_drop, List.length_take, List.length_cons, List.length_nil]); omega))) | ((with_reducible show AllBe _); refine allBe fun βe => ?_; conv => whnf) | ((with_reducible show bothX _ _); refine bothI ?_ ?_; conv => whnf) | (with_reducible exact trivial) | ((with_reducible show CallN _ _ _ _ _ _ _ _); refine call_of env_ok rfl 1000 ?_) | ((with_reducible show XopN _ _ _ _ _ _); refine xop_of env_ok rfl 1000 ?_) | ((with_reducible show CallX _ _ _ _ _ _); first | fail) | ((with_reducible show OpX _ _ _ _); first | fail) | ((with_reducible show ∃ _ : SV, _); first | (refine ⟨_, ?ok, x_index (j := i) (by omega) Tryz.underlying69 (fun w => Tryz.sizeOf3 w) (by omega), ?_⟩; (case ok => exact fun _ _ => rfl)) | (refine ⟨.int .i64 (MD (i + 1) : Nat), fun _ _ => trivial, x_loadO 0 (.int .i64 (MD (i + 1) : Nat)) (fun w => Tryz.isAgg3 w) rfl (fun β => by rw [Nat.mul_one]; exact hg i (by omega)), ?_⟩)) | ((with_reducible show ∃ _, _); first | fail))
    all_goals first | (exfalso; omega) | (refine hI _ ⟨i + 1, by omega⟩ (by dsimp only; omega) (by ((with_reducible show wk _ _); repeat' (first | exact trivial | exact eqSV_refl _ | (refine eqI ?_) | (refine eqS ?_) | (with_reducible exact rfl) | apply And.intro | exact Nat.zero_lt_one | exact Nat.le_of_ble_eq_true rfl | (with_reducible assumption) | ((show (_ : Int) = _); (try dsimp only); omega) | ((show eqSV _ _); simp [eqSV, isB, bval, *]; done) | rfl)); all_goals exact fun b x h => h); done) | trace_state
  · repeat' (first | ((with_reducible first | show wpS _ _ _ _ | show putD _ _ _ _ | show putW _ _ _ _ | show splitG _ _ _ | show wpQ _ _ _ _ _ _ | show wpD _ _ _ _ _ _ _ | show wpX _ _ _ _ _ _ _ | show expX _ _ _ _ _ _ | show stepX _ _ _ _ | show keepR _ _ _ | show wpY _ _ _ _); conv => whnf) | ((with_reducible show RetN _ _ _); refine retB fun β => ?_) | ((with_reducible show _ ∧ _); first | (apply And.intro; (· intro h; exfalso; first | omega | (revert h; decide)); intro _) | (apply And.intro; rotate_left; (· intro h; exfalso; first | omega | (revert h; decide)); intro _) | (refine ⟨fun _ => ?_, fun _ => ?_⟩) | (apply And.intro; · kernel_rfl) | (apply And.intro; · (show inK _ _; unfold inK; omega)) | (apply And.intro; · (show (_ : Int) ≤ 9223372036854775807; (try simp only [List.length_append, List.length_drop, List.length_take, List.length_cons, List.length_nil]); omega))) | ((with_reducible show AllBe _); refine allBe fun βe => ?_; conv => whnf) | ((with_reducible show bothX _ _); refine bothI ?_ ?_; conv => whnf) | (with_reducible exact trivial) | ((with_reducible show CallN _ _ _ _ _ _ _ _); refine call_of env_ok rfl 1000 ?_) | ((with_reducible show XopN _ _ _ _ _ _); refine xop_of env_ok rfl 1000 ?_) | ((with_reducible show CallX _ _ _ _ _ _); first | fail) | ((with_reducible show OpX _ _ _ _); first | fail) | ((with_reducible show ∃ _ : SV, _); first | fail) | ((with_reducible show ∃ _, _); first | fail))
    all_goals first | (exfalso; omega) | (have e : i = m := by { omega }; subst e; rw [hn]; simp only [SV.den, SV.dens]; congr 4; omega) | trace_state
theorem day_any (y m d : Int) (w : World) : Calls Tryz.prog 29 #[.int .i64 y, .int .i64 m, .int .i64 d] w fun e w' => e = .returned (.tuple #[.int .i64 (VaP.dayV y m d), .bool (decide (VaP.dayP y m d))]) ∧ Below w.heap.size w w' := by
  by_cases h : y < 1900 ∨ 9999 < y ∨ m < 1 ∨ 12 < m
  · have hp : ¬ VaP.dayP y m d := fun hp => by have := hp.1; have := hp.2.1; have := hp.2.2.1; have := hp.2.2.2.1; omega
    rw [decide_eq_false hp, VaP.dayV, if_neg hp]
    exact day_no y m d w h
  · obtain ⟨y, rfl⟩ : ∃ k : Nat, y = (k : Int) := ⟨y.toNat, by omega⟩
    obtain ⟨m, rfl⟩ : ∃ k : Nat, m = ((k + 1 : Nat) : Int) := ⟨m.toNat - 1, by omega⟩
    have hq : VaP.dayP (y : Int) ((m + 1 : Nat) : Int) d ↔ 1 ≤ d ∧ d ≤ ((VaP.mdays y (m + 1) : Nat) : Int) := by
      unfold VaP.dayP
      rw [Int.toNat_natCast, Int.toNat_natCast]
      constructor
      · intro h; exact h.2.2.2.2
      · intro h; exact ⟨by omega, by omega, by omega, by omega, h⟩
    refine day_in y m d w (by omega) (by omega) (by omega) _ rfl _ _ ?_ (by rw [decide_eq_decide]; exact hq)
    unfold VaP.dayV
    by_cases hd : 1 ≤ d ∧ d ≤ ((VaP.mdays y (m + 1) : Nat) : Int)
    · rw [if_pos hd, if_pos (hq.2 hd), Int.toNat_natCast, Int.toNat_natCast]; rfl
    · rw [if_neg hd, if_neg (fun h => hd (hq.1 h))]
set_option maxRecDepth 100000 in
theorem date_no (n : Int) (w : World) (h : n < 1 ∨ 2958464 < n) : Calls Tryz.prog 31 #[.int .i64 n] w fun e w' => e = .returned (.tuple #[.int .i64 0, .int .i64 0, .int .i64 0, .bool false]) ∧ Below w.heap.size w w' := by
  have B := fun (w' : World) => before_any 10000 w' (by omega) (by omega)
  rw [VaP.bef_end] at B
  refine enter env_ok Tryz.func31 rfl Tryz.results31 Tryz.ntmps31 [] [] [.int .i64 n] (by simp [SV.oks, SV.ok]) (Nat.le_of_ble_eq_true rfl) w _ 1000 ?_
  repeat' (first | ((with_reducible first | show wpS _ _ _ _ | show putD _ _ _ _ | show putW _ _ _ _ | show splitG _ _ _ | show wpQ _ _ _ _ _ _ | show wpD _ _ _ _ _ _ _ | show wpX _ _ _ _ _ _ _ | show expX _ _ _ _ _ _ | show stepX _ _ _ _ | show keepR _ _ _ | show wpY _ _ _ _); conv => whnf) | ((with_reducible show RetN _ _ _); refine retB fun β => ?_) | ((with_reducible show _ ∧ _); first | (apply And.intro; (· intro h; exfalso; first | omega | (revert h; decide)); intro _) | (apply And.intro; rotate_left; (· intro h; exfalso; first | omega | (revert h; decide)); intro _) | (refine ⟨fun _ => ?_, fun _ => ?_⟩) | (apply And.intro; · kernel_rfl) | (apply And.intro; · (show inK _ _; unfold inK; omega)) | (apply And.intro; · (show (_ : Int) ≤ 9223372036854775807; (try simp only [List.length_append, List.length_drop, List.length_take, List.length_cons, List.length_nil]); omega))) | ((with_reducible show AllBe _); refine allBe fun βe => ?_; conv => whnf) | ((with_reducible show bothX _ _); refine bothI ?_ ?_; conv => whnf) | (with_reducible exact trivial) | ((with_reducible show CallN _ _ _ _ _ _ _ _); refine call_of env_ok rfl 1000 ?_) | ((with_reducible show XopN _ _ _ _ _ _); refine xop_of env_ok rfl 1000 ?_) | ((with_reducible show CallX _ _ _ _ _ _); first | (refine callX (.int .i64 2958464) (by kernel_rfl) rfl (trivial) (fun β w hm => B w) ?_)) | ((with_reducible show OpX _ _ _ _); first | fail) | ((with_reducible show ∃ _ : SV, _); first | fail) | ((with_reducible show ∃ _, _); first | fail))
  all_goals first | rfl | (exfalso; omega)
set_option maxRecDepth 100000 in
set_option maxHeartbeats 1000000 in
theorem date_yes (n : Nat) (w : World) (h1 : 1 ≤ n) (h2 : n ≤ 2958464) : ∃ y m d, VaP.DateI n y m d ∧ Calls Tryz.prog 31 #[.int .i64 (n : Int)] w fun e w' => e = .returned (.tuple #[.int .i64 (y : Nat), .int .i64 ((m + 1 : Nat) : Int), .int .i64 (d : Nat), .bool true]) ∧ Below w.heap.size w w' := by
  obtain ⟨y, m, d, hI⟩ := VaP.date_ex n h1
  refine ⟨y, m, d, hI, ?_⟩
  have hy9 : y ≤ 9999 := by
    have hf := hI.bounds
    rcases Nat.lt_or_ge 9999 y with h | h
    · exfalso
      have := (VaP.bef_mono (y := 10000) (by omega) (y - 10000)).1
      rw [show 10000 + (y - 10000) = y by omega, VaP.bef_end] at this
      omega
    · exact h
  have L := fun (w' : World) => lengths_any y _ w' (by omega) rfl
  have B := fun (k : Nat) (h1 : 1900 ≤ k) (h2 : k ≤ 20000) (w' : World) => before_any k w' h1 h2
  have B0 := B 10000 (by omega) (by omega)
  rw [VaP.bef_end] at B0
  have hgs := dayS_get y
  have hY := hI.y0
  have hf := hI.bounds
  have hg := VaP.bef_guess h1
  have hlt := fun (a b : Nat) (ha : 1900 ≤ a) (h : VaP.bef a < VaP.bef b) => VaP.bef_lt ha h
  have hmon := fun (a k : Nat) (ha : 1900 ≤ a) => VaP.bef_mono ha k
  have hM := hI.m0
  have hd0 := hI.d0
  have hd1 := hI.d1
  have hN := hI.y1
  have hst : ∀ i, VaP.msum y (i + 1) = VaP.msum y i + VaP.mdays y (i + 1) := fun _ => rfl
  have hz : VaP.msum y 0 = 0 := rfl
  have hmo := VaP.msum_mono y
  refine enter env_ok Tryz.func31 rfl Tryz.results31 Tryz.ntmps31 [] [] [.int .i64 (n : Int)] (by simp [SV.oks, SV.ok]) (Nat.le_of_ble_eq_true rfl) w _ 1000 ?_
  repeat' (first | ((with_reducible first | show wpS _ _ _ _ | show putD _ _ _ _ | show putW _ _ _ _ | show splitG _ _ _ | show wpQ _ _ _ _ _ _ | show wpD _ _ _ _ _ _ _ | show wpX _ _ _ _ _ _ _ | show expX _ _ _ _ _ _ | show stepX _ _ _ _ | show keepR _ _ _ | show wpY _ _ _ _); conv => whnf) | ((with_reducible show RetN _ _ _); refine retB fun β => ?_) | ((with_reducible show _ ∧ _); first | (apply And.intro; (· intro h; exfalso; first | omega | (revert h; decide)); intro _) | (apply And.intro; rotate_left; (· intro h; exfalso; first | omega | (revert h; decide)); intro _) | (refine ⟨fun _ => ?_, fun _ => ?_⟩) | (apply And.intro; · kernel_rfl) | (apply And.intro; · (show inK _ _; unfold inK; omega)) | (apply And.intro; · (show (_ : Int) ≤ 9223372036854775807; (try simp only [List.length_append, List.length_drop, List.length_take, List.length_cons, List.length_nil]); omega))) | ((with_reducible show AllBe _); refine allBe fun βe => ?_; conv => whnf) | ((with_reducible show bothX _ _); refine bothI ?_ ?_; conv => whnf) | (with_reducible exact trivial) | ((with_reducible show CallN _ _ _ _ _ _ _ _); refine call_of env_ok rfl 1000 ?_) | ((with_reducible show XopN _ _ _ _ _ _); refine xop_of env_ok rfl 1000 ?_) | ((with_reducible show CallX _ _ _ _ _ _); first | (refine callX (.int .i64 2958464) (by kernel_rfl) rfl (trivial) (fun β w hm => B0 w) ?_)) | ((with_reducible show OpX _ _ _ _); first | fail) | ((with_reducible show ∃ _ : SV, _); first | (refine ⟨_, ?ok, x_quo (by omega) (by omega) (by simp only [inK]; omega), ?_⟩; (case ok => exact fun _ _ => trivial))) | ((with_reducible show ∃ _, _); first | fail))
  all_goals first | (exfalso; omega) | skip
  refine loop env_ok rfl (T := {k : Nat // 1900 ≤ k ∧ VaP.bef k < n ∧ k ≤ y}) (fun t => ⟨[(0, .int .i64 (n : Int)), (6, .int .i64 (t.1 : Nat))], [], 0, 48⟩) (fun t => y - t.1) ⟨1900 + n / 366, by omega, hg, by have := hlt _ (y + 1) (by omega) (Nat.lt_of_lt_of_le hg hf.2); omega⟩ 1000 [] [] (fun _ => Nat.zero_le _) (by ((with_reducible show wk _ _); repeat' (first | exact trivial | exact eqSV_refl _ | (refine eqI ?_) | (refine eqS ?_) | (with_reducible exact rfl) | apply And.intro | exact Nat.zero_lt_one | exact Nat.le_of_ble_eq_true rfl | (with_reducible assumption) | ((show (_ : Int) = _); (try dsimp only); omega) | ((show eqSV _ _); simp [eqSV, isB, bval, *]; done) | rfl))) (fun t I hI => ?_)
  obtain ⟨k, hk0, hk1, hk2⟩ := t
  dsimp only
  have B1 := B (k + 1) (by omega) (by omega)
  rw [show ((k + 1 : Nat) : Int) = (k : Int) + 1 from rfl] at B1
  have By := B y hY (by omega)
  have hnext : VaP.bef (k + 1) < n → k + 1 ≤ y := fun h => by have := hlt (k + 1) (y + 1) (by omega) (by omega); omega
  have hend : ¬ VaP.bef (k + 1) < n → k = y := fun h => by
    rcases Nat.lt_or_ge k y with h' | h'
    · exfalso
      have := (hmon (k + 1) (y - (k + 1)) (by omega)).1
      rw [show k + 1 + (y - (k + 1)) = y by omega] at this
      omega
    · omega
  have hds0 : ∀ i, VaP.msum y i ≤ 31 * i := VaP.msum_le y
  have hml := VaP.mdays_le y
  have hmm : ∀ i, i < m → VaP.msum y (i + 1) ≤ VaP.msum y m := fun i hi => by
    have := hmo (i + 1) (m - (i + 1))
    rwa [show i + 1 + (m - (i + 1)) = m by omega] at this
  by_cases hb : VaP.bef (k + 1) < n
  · have hk' := hnext hb
    clear hend hnext hmo hlt hmon
    generalize hA : VaP.bef (k + 1) = A at *
    repeat' (first | ((with_reducible first | show wpS _ _ _ _ | show putD _ _ _ _ | show putW _ _ _ _ | show splitG _ _ _ | show wpQ _ _ _ _ _ _ | show wpD _ _ _ _ _ _ _ | show wpX _ _ _ _ _ _ _ | show expX _ _ _ _ _ _ | show stepX _ _ _ _ | show keepR _ _ _ | show wpY _ _ _ _); conv => whnf) | ((with_reducible show RetN _ _ _); refine retB fun β => ?_) | ((with_reducible show _ ∧ _); first | (apply And.intro; (· intro h; exfalso; first | omega | (revert h; decide)); intro _) | (apply And.intro; rotate_left; (· intro h; exfalso; first | omega | (revert h; decide)); intro _) | (refine ⟨fun _ => ?_, fun _ => ?_⟩) | (apply And.intro; · kernel_rfl) | (apply And.intro; · (show inK _ _; unfold inK; omega)) | (apply And.intro; · (show (_ : Int) ≤ 9223372036854775807; (try simp only [List.length_append, List.length_drop, List.length_take, List.length_cons, List.length_nil]); omega))) | ((with_reducible show AllBe _); refine allBe fun βe => ?_; conv => whnf) | ((with_reducible show bothX _ _); refine bothI ?_ ?_; conv => whnf) | (with_reducible exact trivial) | ((with_reducible show CallN _ _ _ _ _ _ _ _); refine call_of env_ok rfl 1000 ?_) | ((with_reducible show XopN _ _ _ _ _ _); refine xop_of env_ok rfl 1000 ?_) | ((with_reducible show CallX _ _ _ _ _ _); first | (refine callX (.int .i64 (A : Nat)) (by kernel_rfl) rfl (trivial) (fun β w hm => B1 w) ?_)) | ((with_reducible show OpX _ _ _ _); first | fail) | ((with_reducible show ∃ _ : SV, _); first | fail) | ((with_reducible show ∃ _, _); first | fail))
    all_goals first | (exfalso; omega) | (refine hI _ ⟨k + 1, by omega, by rw [hA]; omega, hk'⟩ (by dsimp only; omega) (by ((with_reducible show wk _ _); repeat' (first | exact trivial | exact eqSV_refl _ | (refine eqI ?_) | (refine eqS ?_) | (with_reducible exact rfl) | apply And.intro | exact Nat.zero_lt_one | exact Nat.le_of_ble_eq_true rfl | (with_reducible assumption) | ((show (_ : Int) = _); (try dsimp only); omega) | ((show eqSV _ _); simp [eqSV, isB, bval, *]; done) | rfl))); done)
  · have hky := hend hb
    subst hky
    clear hend hnext hmo hlt hmon hI
    generalize VaP.bef (k + 1) = A at *
    generalize VaP.bef k = BY at *
    generalize VaP.msum k = MS at *
    generalize VaP.mdays k = MD at *
    repeat' (first | ((with_reducible first | show wpS _ _ _ _ | show putD _ _ _ _ | show putW _ _ _ _ | show splitG _ _ _ | show wpQ _ _ _ _ _ _ | show wpD _ _ _ _ _ _ _ | show wpX _ _ _ _ _ _ _ | show expX _ _ _ _ _ _ | show stepX _ _ _ _ | show keepR _ _ _ | show wpY _ _ _ _); conv => whnf) | ((with_reducible show RetN _ _ _); refine retB fun β => ?_) | ((with_reducible show _ ∧ _); first | (apply And.intro; (· intro h; exfalso; first | omega | (revert h; decide)); intro _) | (apply And.intro; rotate_left; (· intro h; exfalso; first | omega | (revert h; decide)); intro _) | (refine ⟨fun _ => ?_, fun _ => ?_⟩) | (apply And.intro; · kernel_rfl) | (apply And.intro; · (show inK _ _; unfold inK; omega)) | (apply And.intro; · (show (_ : Int) ≤ 9223372036854775807; (try simp only [List.length_append, List.length_drop, List.length_take, List.length_cons, List.length_nil]); omega))) | ((with_reducible show AllBe _); refine allBe fun βe => ?_; conv => whnf) | ((with_reducible show bothX _ _); refine bothI ?_ ?_; conv => whnf) | (with_reducible exact trivial) | ((with_reducible show CallN _ _ _ _ _ _ _ _); refine call_of env_ok rfl 1000 ?_) | ((with_reducible show XopN _ _ _ _ _ _); refine xop_of env_ok rfl 1000 ?_) | ((with_reducible show CallX _ _ _ _ _ _); first | (refine callX (.int .i64 (A : Nat)) (by kernel_rfl) rfl (trivial) (fun β w hm => B1 w) ?_) | (refine callX (.int .i64 (BY : Nat)) (by kernel_rfl) rfl (trivial) (fun β w hm => By w) ?_) | (refine callX (.agg (dayS (MD 2))) (by kernel_rfl) rfl (⟨trivial, trivial, trivial, trivial, trivial, trivial, trivial, trivial, trivial, trivial, trivial, trivial, trivial⟩) (fun β w hm => L w) ?_)) | ((with_reducible show OpX _ _ _ _); first | fail) | ((with_reducible show ∃ _ : SV, _); first | fail) | ((with_reducible show ∃ _, _); first | fail))
    all_goals first | (exfalso; omega) | skip
    refine loop env_ok rfl (T := {i : Nat // i ≤ m}) (fun t => ⟨[(6, .int .i64 (k : Nat)), (7, .int .i64 ((n : Int) - (BY : Nat) - (MS t.1 : Nat))), (32, .agg (dayS (MD 2))), (33, .int .i64 (t.1 : Nat))], [], 0, 48⟩) (fun t => m - t.1) ⟨0, Nat.zero_le _⟩ 1000 [] [] (fun _ => Nat.zero_le _) (by ((with_reducible show wk _ _); repeat' (first | exact trivial | exact eqSV_refl _ | (refine eqI ?_) | (refine eqS ?_) | (with_reducible exact rfl) | apply And.intro | exact Nat.zero_lt_one | exact Nat.le_of_ble_eq_true rfl | (with_reducible assumption) | ((show (_ : Int) = _); (try dsimp only); omega) | ((show eqSV _ _); simp [eqSV, isB, bval, *]; done) | rfl))) (fun t I hI => ?_)
    obtain ⟨i, hi⟩ := t
    dsimp only
    have h5 := hst i
    have h6 := hml (i + 1)
    have h7 := hmm i
    have h8 := hds0 i
    have h9 : i = m → (n : Int) - (BY : Nat) - (MS i : Nat) ≤ (MD (i + 1) : Nat) := by rintro rfl; omega
    repeat' (first | ((with_reducible first | show wpS _ _ _ _ | show putD _ _ _ _ | show putW _ _ _ _ | show splitG _ _ _ | show wpQ _ _ _ _ _ _ | show wpD _ _ _ _ _ _ _ | show wpX _ _ _ _ _ _ _ | show expX _ _ _ _ _ _ | show stepX _ _ _ _ | show keepR _ _ _ | show wpY _ _ _ _); conv => whnf) | ((with_reducible show RetN _ _ _); refine retB fun β => ?_) | ((with_reducible show _ ∧ _); first | (apply And.intro; (· intro h; exfalso; first | omega | (revert h; decide)); intro _) | (apply And.intro; rotate_left; (· intro h; exfalso; first | omega | (revert h; decide)); intro _) | (refine ⟨fun _ => ?_, fun _ => ?_⟩) | (apply And.intro; · kernel_rfl) | (apply And.intro; · (show inK _ _; unfold inK; omega)) | (apply And.intro; · (show (_ : Int) ≤ 9223372036854775807; (try simp only [List.length_append, List.length_drop, List.length_take, List.length_cons, List.length_nil]); omega))) | ((with_reducible show AllBe _); refine allBe fun βe => ?_; conv => whnf) | ((with_reducible show bothX _ _); refine bothI ?_ ?_; conv => whnf) | (with_reducible exact trivial) | ((with_reducible show CallN _ _ _ _ _ _ _ _); refine call_of env_ok rfl 1000 ?_) | ((with_reducible show XopN _ _ _ _ _ _); refine xop_of env_ok rfl 1000 ?_) | ((with_reducible show CallX _ _ _ _ _ _); first | fail) | ((with_reducible show OpX _ _ _ _); first | fail) | ((with_reducible show ∃ _ : SV, _); first | (refine ⟨.int .i64 (MD (i + 1) : Nat), ?ok, x_indexAgg (j := i) Tryz.underlying95 (fun w => Tryz.sizeOf3 w) (fun w => Tryz.isAgg3 w) (by omega) (hgs i (by omega)), ?_⟩; (case ok => exact fun _ _ => trivial))) | ((with_reducible show ∃ _, _); first | fail))
    all_goals first | (exfalso; omega) | (refine hI _ ⟨i + 1, by omega⟩ (by dsimp only; omega) (by ((with_reducible show wk _ _); repeat' (first | exact trivial | exact eqSV_refl _ | (refine eqI ?_) | (refine eqS ?_) | (with_reducible exact rfl) | apply And.intro | exact Nat.zero_lt_one | exact Nat.le_of_ble_eq_true rfl | (with_reducible assumption) | ((show (_ : Int) = _); (try dsimp only); omega) | ((show eqSV _ _); simp [eqSV, isB, bval, *]; done) | rfl))); done) | (have e : i = m := by { omega }; subst e; have e2 : (n : Int) - (BY : Nat) - (MS i : Nat) = (d : Nat) := by { omega }; rw [e2]; rfl) | trace_state
end Go.Proofs.YtdkhkfdenlabaaaGreatDoor
