/- References: the reference's RefText. -/
import Derived.Test.YtgphgimbnflhfaaDoorRfK3
set_option linter.unusedSimpArgs false
set_option linter.unusedVariables false
namespace Go.Proofs.YtgphgimbnflhfaaDoor
open Go.RowKit
open Sym
attribute [local irreducible] Calls
theorem rcol_any (n : Int) (w : World) (hn : 0 ≤ n ∧ n < 1073741824) : Calls Tryd.prog 10 #[.int .i64 n] w fun e w' => e = .returned (.string (bstr (RfP.ltr 8 (n.toNat + 1)))) ∧ Below w.heap.size w w' := by
  obtain ⟨m, rfl⟩ := nat_of hn.1
  exact RLetters_any m w (by omega)
theorem rdec_any (n : Int) (w : World) (hn : 0 ≤ n ∧ n < 1073741824) : Calls Tryd.prog 60 #[.int .i64 (n + 1)] w fun e w' => e = .returned (.string (bstr (Lib.decDigits (n.toNat + 1)))) ∧ Below w.heap.size w w' := by
  obtain ⟨m, rfl⟩ := nat_of hn.1
  exact Decimal_any (m + 1) (by omega) w
theorem dbl_next (s : List UInt8) (k : Nat) (h : k < s.length) : RfP.dbl (s.take (k + 1)) = RfP.dbl (s.take k) ++ (if s.getD k 0 = 39 then [39, 39] else [s.getD k 0]) := by
  rw [take_next0 s k h]
  unfold RfP.dbl
  rw [List.flatMap_append]
  simp
theorem sub_one (s : List UInt8) (k : Nat) (h : k < s.length) : (s.take (k + 1)).drop k = [s.getD k 0] := by
  rw [take_next0 s k h, List.drop_append_of_le_length (by simp; omega), List.drop_eq_nil_of_le (by simp; omega)]; rfl
theorem byte_eq {c : UInt8} {k : Nat} (hk : k < 256) (h : (c.toNat : Int) = (k : Int)) : c = UInt8.ofNat k := by
  apply UInt8.toNat_inj.1; simp; omega
set_option maxRecDepth 100000 in
set_option maxHeartbeats 8000000 in
theorem RefText_any (x : RfP.Ref) (w : World) (h : RfP.checkP x = 0) : Calls Tryd.prog 31 #[.agg (refC x)] w fun e w' => e = .returned (.string (bstr (RfP.textP x))) ∧ Below w.heap.size w w' := by
  obtain ⟨hk, hr, hc, hr2, hc2⟩ := ref_bounds h
  have hn := ref_name h
  clear h
  have hd := RfP.dbl_len x.sh
  have l1 := colT_len x.c x.ac
  have l2 := colT_len x.c2 x.ac2
  have l3 := rowT_len x.r x.ar hr
  have l4 := rowT_len x.r2 x.ar2 hr2
  have d1 := RfP.ltr_len 8 (x.c.toNat + 1)
  have d2 := RfP.ltr_len 8 (x.c2.toNat + 1)
  have d3 := RfP.dig_len (x.r.toNat + 1) (by omega)
  have d4 := RfP.dig_len (x.r2.toNat + 1) (by omega)
  refine enter env_ok Tryd.func31 rfl Tryd.results31 Tryd.ntmps31 [] [] [rS x] ⟨rS_ok x 0, trivial⟩ (Nat.le_of_ble_eq_true rfl) w _ 1000 ?_
  repeat' (first | ((with_reducible first | show wpS _ _ _ _ | show putD _ _ _ _ | show putW _ _ _ _ | show splitG _ _ _ | show wpQ _ _ _ _ _ _ | show wpD _ _ _ _ _ _ _ | show wpX _ _ _ _ _ _ | show expX _ _ _ _ _ _ | show stepX _ _ _ _); conv => whnf) | ((with_reducible show RetN _ _ _); refine retB fun β => ?_) | ((with_reducible show _ ∧ _); first | (apply And.intro; (· intro h; exfalso; first | omega | (revert h; decide)); intro _) | (apply And.intro; rotate_left; (· intro h; exfalso; first | omega | (revert h; decide)); intro _) | (refine ⟨fun _ => ?_, fun _ => ?_⟩) | (apply And.intro; · kernel_rfl) | (apply And.intro; · (show inK _ _; unfold inK; omega)) | (apply And.intro; · (show (_ : Int) ≤ 9223372036854775807; (try simp only [List.length_append, List.length_drop, List.length_take, List.length_cons, List.length_nil]); omega))) | ((with_reducible show bothX _ _); refine bothI ?_ ?_; conv => whnf) | (with_reducible exact trivial) | ((with_reducible show CallN _ _ _ _ _ _ _ _); refine call_of env_ok rfl 1000 ?_) | ((with_reducible show XopN _ _ _ _ _ _); refine xop_of env_ok rfl 1000 ?_) | ((with_reducible show CallX _ _ _ _ _ _); first | (refine callX (.bool (RfP.plain x.sh)) (by kernel_rfl) rfl (trivial) (fun β w hm => quiet (RPlain_any x.sh w (by omega))) ?_)) | ((with_reducible show OpX _ _ _ _); first | fail) | ((with_reducible show ∃ _ : SV, _); first | (refine ⟨.str (RfP.ltr 8 (x.c.toNat + 1)), by kernel_rfl, trivial, fun β w hm => rcol_any x.c w hc, ?_⟩) | (refine ⟨.str (RfP.ltr 8 (x.c2.toNat + 1)), by kernel_rfl, trivial, fun β w hm => rcol_any x.c2 w hc2, ?_⟩) | (refine ⟨.str (Lib.decDigits (x.r.toNat + 1)), by kernel_rfl, trivial, fun β w hm => rdec_any x.r w hr, ?_⟩) | (refine ⟨.str (Lib.decDigits (x.r2.toNat + 1)), by kernel_rfl, trivial, fun β w hm => rdec_any x.r2 w hr2, ?_⟩) | (refine ⟨.str (RfP.colT x.c x.ac), by kernel_rfl, trivial, fun β w hm => mark_any x.ac _ w (by omega), ?_⟩) | (refine ⟨.str (RfP.colT x.c2 x.ac2), by kernel_rfl, trivial, fun β w hm => mark_any x.ac2 _ w (by omega), ?_⟩) | (refine ⟨.str (RfP.rowT x.r x.ar), by kernel_rfl, trivial, fun β w hm => mark_any x.ar _ w (by omega), ?_⟩) | (refine ⟨.str (RfP.rowT x.r2 x.ar2), by kernel_rfl, trivial, fun β w hm => mark_any x.ar2 _ w (by omega), ?_⟩) | (refine ⟨_, ?ok, x_indexPtr (j := 0) Tryd.underlying84 (fun w => Tryd.sizeOf9 w) (by omega), ?_⟩; (case ok => exact fun n h => h.1)) | (refine ⟨_, ?ok, x_indexPtr (j := 1) Tryd.underlying84 (fun w => Tryd.sizeOf9 w) (by omega), ?_⟩; (case ok => exact fun n h => h.1))) | ((with_reducible show ∃ _, _); first | fail))
  case refine_2.refine_1.refine_1 =>
    have hp : RfP.plain x.sh = false := by simpa using ‹(!RfP.plain x.sh) = true›
    have he : ¬ x.sh = [] := by assumption
    refine loop env_ok rfl (T := {k : Nat // k ≤ x.sh.length}) (fun t => ⟨[(1, .ptr 0 0), (3, .str ([39] ++ RfP.dbl (x.sh.take t.1))), (19, .int .i64 (x.sh.length : Int)), (20, .int .i64 (t.1 : Int))], [(0, true, .cells 35 (rF x))], 1, 100⟩) (fun t => x.sh.length - t.1) ⟨0, Nat.zero_le _⟩ 1000 [] [] (fun _ => Nat.zero_le _) (by ((with_reducible show wk _ _); repeat' (first | exact trivial | exact eqSV_refl _ | (refine eqI ?_) | (refine eqS ?_) | (with_reducible exact rfl) | apply And.intro | exact Nat.zero_lt_one | exact Nat.le_of_ble_eq_true rfl | (with_reducible assumption) | ((show (_ : Int) = _); (try dsimp only); omega) | ((show eqSV _ _); simp [eqSV, isB, bval, *]; done) | rfl))) (fun t I hI => ?_)
    obtain ⟨k, hkl⟩ := t
    dsimp only
    have hdk := RfP.dbl_len (x.sh.take k)
    have htk : (x.sh.take k).length ≤ 200 := by rw [List.length_take]; omega
    by_cases hlt : k < x.sh.length
    · have hN := dbl_next x.sh k hlt
      have hS := sub_one x.sh k hlt
      repeat' (first | ((with_reducible first | show wpS _ _ _ _ | show putD _ _ _ _ | show putW _ _ _ _ | show splitG _ _ _ | show wpQ _ _ _ _ _ _ | show wpD _ _ _ _ _ _ _ | show wpX _ _ _ _ _ _ | show expX _ _ _ _ _ _ | show stepX _ _ _ _); conv => whnf) | ((with_reducible show RetN _ _ _); refine retB fun β => ?_) | ((with_reducible show _ ∧ _); first | (apply And.intro; (· intro h; exfalso; first | omega | (revert h; decide)); intro _) | (apply And.intro; rotate_left; (· intro h; exfalso; first | omega | (revert h; decide)); intro _) | (refine ⟨fun _ => ?_, fun _ => ?_⟩) | (apply And.intro; · kernel_rfl) | (apply And.intro; · (show inK _ _; unfold inK; omega)) | (apply And.intro; · (show (_ : Int) ≤ 9223372036854775807; (try simp only [List.length_append, List.length_drop, List.length_take, List.length_cons, List.length_nil]); omega))) | ((with_reducible show bothX _ _); refine bothI ?_ ?_; conv => whnf) | (with_reducible exact trivial) | ((with_reducible show CallN _ _ _ _ _ _ _ _); refine call_of env_ok rfl 1000 ?_) | ((with_reducible show XopN _ _ _ _ _ _); refine xop_of env_ok rfl 1000 ?_) | ((with_reducible show CallX _ _ _ _ _ _); first | (refine callX (.bool (RfP.plain x.sh)) (by kernel_rfl) rfl (trivial) (fun β w hm => quiet (RPlain_any x.sh w (by omega))) ?_)) | ((with_reducible show OpX _ _ _ _); first | fail) | ((with_reducible show ∃ _ : SV, _); first | (refine ⟨.str (RfP.ltr 8 (x.c.toNat + 1)), by kernel_rfl, trivial, fun β w hm => rcol_any x.c w hc, ?_⟩) | (refine ⟨.str (RfP.ltr 8 (x.c2.toNat + 1)), by kernel_rfl, trivial, fun β w hm => rcol_any x.c2 w hc2, ?_⟩) | (refine ⟨.str (Lib.decDigits (x.r.toNat + 1)), by kernel_rfl, trivial, fun β w hm => rdec_any x.r w hr, ?_⟩) | (refine ⟨.str (Lib.decDigits (x.r2.toNat + 1)), by kernel_rfl, trivial, fun β w hm => rdec_any x.r2 w hr2, ?_⟩) | (refine ⟨.str (RfP.colT x.c x.ac), by kernel_rfl, trivial, fun β w hm => mark_any x.ac _ w (by omega), ?_⟩) | (refine ⟨.str (RfP.colT x.c2 x.ac2), by kernel_rfl, trivial, fun β w hm => mark_any x.ac2 _ w (by omega), ?_⟩) | (refine ⟨.str (RfP.rowT x.r x.ar), by kernel_rfl, trivial, fun β w hm => mark_any x.ar _ w (by omega), ?_⟩) | (refine ⟨.str (RfP.rowT x.r2 x.ar2), by kernel_rfl, trivial, fun β w hm => mark_any x.ar2 _ w (by omega), ?_⟩) | (refine ⟨_, ?ok, x_indexPtr (j := 0) Tryd.underlying84 (fun w => Tryd.sizeOf9 w) (by omega), ?_⟩; (case ok => exact fun n h => h.1)) | (refine ⟨_, ?ok, x_indexPtr (j := 1) Tryd.underlying84 (fun w => Tryd.sizeOf9 w) (by omega), ?_⟩; (case ok => exact fun n h => h.1))) | ((with_reducible show ∃ _, _); first | (refine ⟨k, k + 1, rfl, by omega, by omega, by omega, ?_⟩) | (refine ⟨k, rfl, hlt, ?_⟩)))
      · refine hI _ ⟨k + 1, hlt⟩ (by dsimp only; omega) ?_
        have hc : x.sh.getD k 0 = 39 := byte_eq (k := 39) (by omega) (by assumption)
        rw [if_pos hc] at hN
        dsimp only
        rw [hN, hS, hc]
        ((with_reducible show wk _ _); repeat' (first | exact trivial | exact eqSV_refl _ | (refine eqI ?_) | (refine eqS ?_) | (with_reducible exact rfl) | apply And.intro | exact Nat.zero_lt_one | exact Nat.le_of_ble_eq_true rfl | (with_reducible assumption) | ((show (_ : Int) = _); (try dsimp only); omega) | ((show eqSV _ _); simp [eqSV, isB, bval, *]; done) | rfl))
        all_goals simp
      · refine hI _ ⟨k + 1, hlt⟩ (by dsimp only; omega) ?_
        have hc : ¬ x.sh.getD k 0 = 39 := fun e => by simp_all
        rw [if_neg hc] at hN
        dsimp only
        rw [hN, hS]
        ((with_reducible show wk _ _); repeat' (first | exact trivial | exact eqSV_refl _ | (refine eqI ?_) | (refine eqS ?_) | (with_reducible exact rfl) | apply And.intro | exact Nat.zero_lt_one | exact Nat.le_of_ble_eq_true rfl | (with_reducible assumption) | ((show (_ : Int) = _); (try dsimp only); omega) | ((show eqSV _ _); simp [eqSV, isB, bval, *]; done) | rfl))
        all_goals simp
    · rw [List.take_of_length_le (by omega)] at hdk ⊢
      repeat' (first | ((with_reducible first | show wpS _ _ _ _ | show putD _ _ _ _ | show putW _ _ _ _ | show splitG _ _ _ | show wpQ _ _ _ _ _ _ | show wpD _ _ _ _ _ _ _ | show wpX _ _ _ _ _ _ | show expX _ _ _ _ _ _ | show stepX _ _ _ _); conv => whnf) | ((with_reducible show RetN _ _ _); refine retB fun β => ?_) | ((with_reducible show _ ∧ _); first | (apply And.intro; (· intro h; exfalso; first | omega | (revert h; decide)); intro _) | (apply And.intro; rotate_left; (· intro h; exfalso; first | omega | (revert h; decide)); intro _) | (refine ⟨fun _ => ?_, fun _ => ?_⟩) | (apply And.intro; · kernel_rfl) | (apply And.intro; · (show inK _ _; unfold inK; omega)) | (apply And.intro; · (show (_ : Int) ≤ 9223372036854775807; (try simp only [List.length_append, List.length_drop, List.length_take, List.length_cons, List.length_nil]); omega))) | ((with_reducible show bothX _ _); refine bothI ?_ ?_; conv => whnf) | (with_reducible exact trivial) | ((with_reducible show CallN _ _ _ _ _ _ _ _); refine call_of env_ok rfl 1000 ?_) | ((with_reducible show XopN _ _ _ _ _ _); refine xop_of env_ok rfl 1000 ?_) | ((with_reducible show CallX _ _ _ _ _ _); first | (refine callX (.bool (RfP.plain x.sh)) (by kernel_rfl) rfl (trivial) (fun β w hm => quiet (RPlain_any x.sh w (by omega))) ?_)) | ((with_reducible show OpX _ _ _ _); first | fail) | ((with_reducible show ∃ _ : SV, _); first | (refine ⟨.str (RfP.ltr 8 (x.c.toNat + 1)), by kernel_rfl, trivial, fun β w hm => rcol_any x.c w hc, ?_⟩) | (refine ⟨.str (RfP.ltr 8 (x.c2.toNat + 1)), by kernel_rfl, trivial, fun β w hm => rcol_any x.c2 w hc2, ?_⟩) | (refine ⟨.str (Lib.decDigits (x.r.toNat + 1)), by kernel_rfl, trivial, fun β w hm => rdec_any x.r w hr, ?_⟩) | (refine ⟨.str (Lib.decDigits (x.r2.toNat + 1)), by kernel_rfl, trivial, fun β w hm => rdec_any x.r2 w hr2, ?_⟩) | (refine ⟨.str (RfP.colT x.c x.ac), by kernel_rfl, trivial, fun β w hm => mark_any x.ac _ w (by omega), ?_⟩) | (refine ⟨.str (RfP.colT x.c2 x.ac2), by kernel_rfl, trivial, fun β w hm => mark_any x.ac2 _ w (by omega), ?_⟩) | (refine ⟨.str (RfP.rowT x.r x.ar), by kernel_rfl, trivial, fun β w hm => mark_any x.ar _ w (by omega), ?_⟩) | (refine ⟨.str (RfP.rowT x.r2 x.ar2), by kernel_rfl, trivial, fun β w hm => mark_any x.ar2 _ w (by omega), ?_⟩) | (refine ⟨_, ?ok, x_indexPtr (j := 0) Tryd.underlying84 (fun w => Tryd.sizeOf9 w) (by omega), ?_⟩; (case ok => exact fun n h => h.1)) | (refine ⟨_, ?ok, x_indexPtr (j := 1) Tryd.underlying84 (fun w => Tryd.sizeOf9 w) (by omega), ?_⟩; (case ok => exact fun n h => h.1))) | ((with_reducible show ∃ _, _); first | fail))
      all_goals first | rw [text0 (by assumption)] | rw [text1 (by omega)] | rw [text2 (by omega)] | rw [text3 (by omega)]
      all_goals (rw [sheet2 he hp]; simp [SV.den, RfP.colT, RfP.rowT]; done)
  all_goals first | rw [text0 (by assumption)] | rw [text1 (by omega)] | rw [text2 (by omega)] | rw [text3 (by omega)] | rw [text4 (by assumption)]
  all_goals first | rfl | (rw [sheet0 (Classical.not_not.1 ‹¬¬x.sh = []›)]; simp [SV.den]; done) | (rw [sheet1 (by assumption) (by simpa using ‹(!RfP.plain x.sh) = false›)]; simp [SV.den]; done)
end Go.Proofs.YtgphgimbnflhfaaDoor
