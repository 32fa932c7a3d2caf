/- References: columns and rows as text, and the program's Print. -/
import Derived.Test.YtgphgimbnflhfaaDoorRfK1
import Derived.Lib.ItoaMem
set_option linter.unusedSimpArgs false
set_option linter.unusedVariables false
namespace Go.Proofs.YtgphgimbnflhfaaDoor
open Go.RowKit
open Sym
attribute [local irreducible] Calls
/-- what the library's functions ask of the world -/
structure LW (w : World) : Prop where
  tab : Lib.TabIs Tryd.prog w "internal/strconv.uint64pow10" .u64 Lib.pow10Tab
  max : ∃ m, w.cell? ⟨0, 0, none⟩ = some (.int .i64 m)
theorem LW.below {w w' : World} (h : LW w) (hb : Below w.heap.size w w') : LW w' := by
  obtain ⟨h1, m, h2⟩ := h
  refine ⟨?_, m, ?_⟩
  · unfold Lib.TabIs at h1 ⊢
    rw [← h1]
    unfold World.var?
    cases hg : Tryd.prog.globalNamed "internal/strconv.uint64pow10" with
    | none => rfl
    | some g =>
      have hlt : g < w.heap.size := by
        rcases Nat.lt_or_ge g w.heap.size with h0 | h0
        · exact h0
        · unfold World.var? at h1
          rw [hg] at h1
          simp [Array.getElem?_eq_none h0] at h1
      simp [hb.block g hlt]
  · have := World.block_lt_of_cell? w _ h2
    rw [World.cell?_of_block (w := w) (hb.block _ this)]; exact h2
theorem grown_ahead (w : World) (n : Nat) (os : Array Obj) : Below w.heap.size w (Go.Sort.grow (w.drewN n) os) := by
  refine ⟨rfl, rfl, rfl, by simp [Go.Sort.grow, World.drewN], fun k hk => ?_⟩
  show (w.heap ++ os)[k]? = _
  rw [Array.getElem?_append_left hk]
theorem itoa_any (n : Nat) (w : World) (hn : n < 4294967296) (hw : LW w) : Calls Tryd.prog 76 #[.int .i64 (n : Int)] w fun e w' => e = .returned (.string (bstr (Lib.decDigits n))) ∧ Below w.heap.size w w' := by
  refine (Tryd.strconv_Itoa (n : Int) (by omega) (by omega) w hw.tab).mono ?_
  rintro e w' ⟨rfl, k, os, rfl⟩
  refine ⟨by rw [Lib.itoa_nonneg]; rfl, ?_⟩
  first | exact grown_ahead w k os | exact ⟨rfl, rfl, rfl, by simp [Go.Sort.grow], fun j hj => by show (w.heap ++ os)[j]? = _; rw [Array.getElem?_append_left hj]⟩
set_option maxRecDepth 100000 in
set_option maxHeartbeats 2000000 in
theorem dollar_any (b : Bool) (s : List UInt8) (w : World) (hs : s.length ≤ 1000000) : Calls Tryd.prog 75 #[.bool b, .string (bstr s)] w fun e w' => e = .returned (.string (bstr (RfP.mkT b s))) ∧ Below w.heap.size w w' := by
  refine enter env_ok Tryd.func75 rfl Tryd.results75 Tryd.ntmps75 [] [] [.bool b, .str s] (by simp [SV.oks, SV.ok]) (Nat.le_of_ble_eq_true rfl) w _ 1000 ?_
  repeat' (first | ((with_reducible first | show wpS _ _ _ _ | show putD _ _ _ _ | show putW _ _ _ _ | show splitG _ _ _ | show wpQ _ _ _ _ _ _ | show wpD _ _ _ _ _ _ _ | show wpX _ _ _ _ _ _ | show expX _ _ _ _ _ _ | show stepX _ _ _ _); conv => whnf) | ((with_reducible show RetN _ _ _); refine retB fun β => ?_) | ((with_reducible show _ ∧ _); first | (apply And.intro; (· intro h; exfalso; first | omega | (revert h; decide)); intro _) | (apply And.intro; rotate_left; (· intro h; exfalso; first | omega | (revert h; decide)); intro _) | (refine ⟨fun _ => ?_, fun _ => ?_⟩) | (apply And.intro; · kernel_rfl) | (apply And.intro; · (show inK _ _; unfold inK; omega)) | (apply And.intro; · (show (_ : Int) ≤ 9223372036854775807; simp only [List.length_append, List.length_drop, List.length_take, List.length_cons, List.length_nil]; omega))) | ((with_reducible show bothX _ _); refine bothI ?_ ?_; conv => whnf) | (with_reducible exact trivial) | ((with_reducible show CallN _ _ _ _ _ _ _ _); refine call_of env_ok rfl 1000 ?_) | ((with_reducible show XopN _ _ _ _ _ _); refine xop_of env_ok rfl 1000 ?_) | ((with_reducible show CallX _ _ _ _ _ _); first | fail) | ((with_reducible show OpX _ _ _ _); first | fail) | ((with_reducible show ∃ _ : SV, _); first | fail) | ((with_reducible show ∃ _, _); first | fail))
  all_goals (subst_vars; rfl)
set_option maxRecDepth 100000 in
set_option maxHeartbeats 2000000 in
theorem mark_any (b : Bool) (s : List UInt8) (w : World) (hs : s.length ≤ 1000000) : Calls Tryd.prog 59 #[.string (bstr s), .bool b] w fun e w' => e = .returned (.string (bstr (RfP.mkT b s))) ∧ Below w.heap.size w w' := by
  refine enter env_ok Tryd.func59 rfl Tryd.results59 Tryd.ntmps59 [] [] [.str s, .bool b] (by simp [SV.oks, SV.ok]) (Nat.le_of_ble_eq_true rfl) w _ 1000 ?_
  repeat' (first | ((with_reducible first | show wpS _ _ _ _ | show putD _ _ _ _ | show putW _ _ _ _ | show splitG _ _ _ | show wpQ _ _ _ _ _ _ | show wpD _ _ _ _ _ _ _ | show wpX _ _ _ _ _ _ | show expX _ _ _ _ _ _ | show stepX _ _ _ _); conv => whnf) | ((with_reducible show RetN _ _ _); refine retB fun β => ?_) | ((with_reducible show _ ∧ _); first | (apply And.intro; (· intro h; exfalso; first | omega | (revert h; decide)); intro _) | (apply And.intro; rotate_left; (· intro h; exfalso; first | omega | (revert h; decide)); intro _) | (refine ⟨fun _ => ?_, fun _ => ?_⟩) | (apply And.intro; · kernel_rfl) | (apply And.intro; · (show inK _ _; unfold inK; omega)) | (apply And.intro; · (show (_ : Int) ≤ 9223372036854775807; simp only [List.length_append, List.length_drop, List.length_take, List.length_cons, List.length_nil]; omega))) | ((with_reducible show bothX _ _); refine bothI ?_ ?_; conv => whnf) | (with_reducible exact trivial) | ((with_reducible show CallN _ _ _ _ _ _ _ _); refine call_of env_ok rfl 1000 ?_) | ((with_reducible show XopN _ _ _ _ _ _); refine xop_of env_ok rfl 1000 ?_) | ((with_reducible show CallX _ _ _ _ _ _); first | fail) | ((with_reducible show OpX _ _ _ _); first | fail) | ((with_reducible show ∃ _ : SV, _); first | fail) | ((with_reducible show ∃ _, _); first | fail))
  all_goals (subst_vars; rfl)
theorem mkT_len (b : Bool) (s : List UInt8) : (RfP.mkT b s).length ≤ s.length + 1 := by
  unfold RfP.mkT; split <;> simp
theorem nat_of {n : Int} (h : 0 ≤ n) : ∃ m : Nat, n = (m : Int) := ⟨n.toNat, by omega⟩
set_option maxRecDepth 100000 in
set_option maxHeartbeats 2000000 in
theorem col_any (n : Int) (b : Bool) (w : World) (hn : 0 ≤ n ∧ n < 1073741824) : Calls Tryd.prog 56 #[.int .i64 n, .bool b] w fun e w' => e = .returned (.string (bstr (RfP.colT n b))) ∧ Below w.heap.size w w' := by
  obtain ⟨m, rfl⟩ := nat_of hn.1
  have hl := RfP.ltr_len 8 (m + 1)
  refine enter env_ok Tryd.func56 rfl Tryd.results56 Tryd.ntmps56 [] [] [.int .i64 (m : Int), .bool b] (by simp [SV.oks, SV.ok]) (Nat.le_of_ble_eq_true rfl) w _ 1000 ?_
  repeat' (first | ((with_reducible first | show wpS _ _ _ _ | show putD _ _ _ _ | show putW _ _ _ _ | show splitG _ _ _ | show wpQ _ _ _ _ _ _ | show wpD _ _ _ _ _ _ _ | show wpX _ _ _ _ _ _ | show expX _ _ _ _ _ _ | show stepX _ _ _ _); conv => whnf) | ((with_reducible show RetN _ _ _); refine retB fun β => ?_) | ((with_reducible show _ ∧ _); first | (apply And.intro; (· intro h; exfalso; first | omega | (revert h; decide)); intro _) | (apply And.intro; rotate_left; (· intro h; exfalso; first | omega | (revert h; decide)); intro _) | (refine ⟨fun _ => ?_, fun _ => ?_⟩) | (apply And.intro; · kernel_rfl) | (apply And.intro; · (show inK _ _; unfold inK; omega)) | (apply And.intro; · (show (_ : Int) ≤ 9223372036854775807; simp only [List.length_append, List.length_drop, List.length_take, List.length_cons, List.length_nil]; omega))) | ((with_reducible show bothX _ _); refine bothI ?_ ?_; conv => whnf) | (with_reducible exact trivial) | ((with_reducible show CallN _ _ _ _ _ _ _ _); refine call_of env_ok rfl 1000 ?_) | ((with_reducible show XopN _ _ _ _ _ _); refine xop_of env_ok rfl 1000 ?_) | ((with_reducible show CallX _ _ _ _ _ _); first | (refine callX (.str (RfP.ltr 8 (m + 1))) (by kernel_rfl) rfl (trivial) (fun β w hm => letters_any m w (by omega)) ?_) | (refine callX (.str (RfP.mkT b (RfP.ltr 8 (m + 1)))) (by kernel_rfl) rfl (trivial) (fun β w hm => dollar_any b _ w (by omega)) ?_)) | ((with_reducible show OpX _ _ _ _); first | fail) | ((with_reducible show ∃ _ : SV, _); first | fail) | ((with_reducible show ∃ _, _); first | fail))
  rfl
set_option maxRecDepth 100000 in
set_option maxHeartbeats 2000000 in
theorem row_any (n : Int) (b : Bool) (w : World) (hn : 0 ≤ n ∧ n < 1073741824) (hw : LW w) : Calls Tryd.prog 57 #[.int .i64 n, .bool b] w fun e w' => e = .returned (.string (bstr (RfP.rowT n b))) ∧ Below w.heap.size w w' := by
  obtain ⟨m, rfl⟩ := nat_of hn.1
  have hl := RfP.dig_len (m + 1) (by omega)
  refine enter env_ok Tryd.func57 rfl Tryd.results57 Tryd.ntmps57 [] [] [.int .i64 (m : Int), .bool b] (by simp [SV.oks, SV.ok]) (Nat.le_of_ble_eq_true rfl) w _ 1000 ?_
  repeat' (first | ((with_reducible first | show wpS _ _ _ _ | show putD _ _ _ _ | show putW _ _ _ _ | show splitG _ _ _ | show wpQ _ _ _ _ _ _ | show wpD _ _ _ _ _ _ _ | show wpX _ _ _ _ _ _ | show expX _ _ _ _ _ _ | show stepX _ _ _ _); conv => whnf) | ((with_reducible show RetN _ _ _); refine retB fun β => ?_) | ((with_reducible show _ ∧ _); first | (apply And.intro; (· intro h; exfalso; first | omega | (revert h; decide)); intro _) | (apply And.intro; rotate_left; (· intro h; exfalso; first | omega | (revert h; decide)); intro _) | (refine ⟨fun _ => ?_, fun _ => ?_⟩) | (apply And.intro; · kernel_rfl) | (apply And.intro; · (show inK _ _; unfold inK; omega)) | (apply And.intro; · (show (_ : Int) ≤ 9223372036854775807; simp only [List.length_append, List.length_drop, List.length_take, List.length_cons, List.length_nil]; omega))) | ((with_reducible show bothX _ _); refine bothI ?_ ?_; conv => whnf) | (with_reducible exact trivial) | ((with_reducible show CallN _ _ _ _ _ _ _ _); refine call_of env_ok rfl 1000 ?_) | ((with_reducible show XopN _ _ _ _ _ _); refine xop_of env_ok rfl 1000 ?_) | ((with_reducible show CallX _ _ _ _ _ _); first | (refine callX (.str (Lib.decDigits (m + 1))) (by kernel_rfl) rfl (trivial) (fun β w hm => itoa_any (m + 1) w (by omega) (hw.below hm.below)) ?_) | (refine callX (.str (RfP.mkT b (Lib.decDigits (m + 1)))) (by kernel_rfl) rfl (trivial) (fun β w hm => dollar_any b _ w (by omega)) ?_)) | ((with_reducible show OpX _ _ _ _); first | fail) | ((with_reducible show ∃ _ : SV, _); first | fail) | ((with_reducible show ∃ _, _); first | fail))
  rfl
theorem colT_len (n : Int) (b : Bool) : (RfP.colT n b).length ≤ 9 := by
  have := mkT_len b (RfP.ltr 8 (n.toNat + 1))
  have := RfP.ltr_len 8 (n.toNat + 1)
  unfold RfP.colT; omega
theorem rowT_len (n : Int) (b : Bool) (hn : 0 ≤ n ∧ n < 1073741824) : (RfP.rowT n b).length ≤ 12 := by
  have := mkT_len b (Lib.decDigits (n.toNat + 1))
  have := RfP.dig_len (n.toNat + 1) (by omega)
  unfold RfP.rowT; omega
theorem replaceAll_any (s : List UInt8) (w : World) (hw : LW w) (hs : s.length ≤ 200) : Calls Tryd.prog 55 #[.string (bstr s), .string (bstr [39]), .string (bstr [39, 39])] w fun e w' => e = .returned (.string (bstr (RfP.dbl s))) ∧ Below w.heap.size w w' := by
  obtain ⟨m, hm⟩ := hw.max
  have hc : Lib.countB (bstr s) (bstr [39]) ≤ s.length + 1 := Lib.count_le _ _
  refine (Tryd.strings_ReplaceAll (bstr s) (bstr [39]) (bstr [39, 39]) m w (by rw [bstr_size]; omega) hm (by decide) (by rw [bstr_size, show (bstr [39, 39]).size = 2 from rfl]; omega)).mono ?_
  rintro e w' ⟨rfl, hb⟩
  refine ⟨?_, hb⟩
  have := RfP.replace_one 39 [39, 39] (by decide) s
  show Ending.returned (.string (bstr (Lib.replaceAll s [39] [39, 39]))) = _
  rw [this]; rfl
theorem ref_name {x : RfP.Ref} (h : RfP.checkP x = 0) : x.sh.length ≤ 200 := by
  unfold RfP.checkP at h
  by_cases h0 : x.k < 0 ∨ 4 < x.k
  · rw [if_pos h0] at h; omega
  rw [if_neg h0] at h
  by_cases h1 : RfP.nameP x.sh ≠ 0
  · rw [if_pos h1] at h; exact absurd h h1
  · unfold RfP.nameP at h1
    by_cases h2 : 200 < x.sh.length
    · rw [if_pos h2] at h1; simp at h1
    · omega
end Go.Proofs.YtgphgimbnflhfaaDoor
