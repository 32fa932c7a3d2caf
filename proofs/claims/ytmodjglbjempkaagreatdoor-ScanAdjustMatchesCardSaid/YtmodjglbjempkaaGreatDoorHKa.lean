/- References: numbers and columns as text, the program's and the reference's. References: columns and rows as text, and the program's Print. References: the program's Print. References: the reference's RefText. -/
import Derived.Test.YtmodjglbjempkaaGreatDoorHSb
import Derived.Test.YtmodjglbjempkaaGreatDoorHRfT0
import Derived.Test.YtmodjglbjempkaaGreatDoorHPa
import Derived.Test.YtmodjglbjempkaaGreatDoorHShelf2
import Derived.Lib.ItoaMem
set_option linter.unusedSimpArgs false
set_option linter.unusedVariables false
namespace Go.Proofs.YtmodjglbjempkaaGreatDoor
open Go.RowKit
open Sym
attribute [local irreducible] Calls
theorem digit_byte (k : Nat) (h : k < 10) : [Value.int .u8 (48 + (k : Int))] = bvals [UInt8.ofNat (48 + k)] := by
  rw [bvals_one]
  have : (UInt8.ofNat (48 + k)).toNat = 48 + k := by simp; omega
  rw [this]
  simp
set_option maxRecDepth 100000 in
set_option maxHeartbeats 2000000 in
theorem Decimal_any (n : Nat) : n < 4294967296 → ∀ w, Calls Tryz.prog 105 #[.int .i64 (n : Int)] w fun e w' => e = .returned (.string (bstr (Lib.decDigits n))) ∧ Below w.heap.size w w' := by
  induction n using Nat.strongRecOn with
  | _ n ih =>
  intro hn w
  by_cases h : n < 10
  · rw [Lib.decDigits_one h]
    refine enter env_ok Tryz.func105 rfl Tryz.results105 Tryz.ntmps105 [] [] [.int .i64 (n : Int)] (by simp [SV.oks, SV.ok]) (Nat.le_of_ble_eq_true rfl) w _ 1000 ?_
    repeat' (first | ((with_reducible first | show wpS _ _ _ _ | show putD _ _ _ _ | show putW _ _ _ _ | show splitG _ _ _ | show wpQ _ _ _ _ _ _ | show wpD _ _ _ _ _ _ _ | show wpX _ _ _ _ _ _ | show expX _ _ _ _ _ _ | show stepX _ _ _ _); conv => whnf) | ((with_reducible show RetN _ _ _); refine retB fun β => ?_) | ((with_reducible show _ ∧ _); first | (apply And.intro; (· intro h; exfalso; first | omega | (revert h; decide)); intro _) | (apply And.intro; rotate_left; (· intro h; exfalso; first | omega | (revert h; decide)); intro _) | (refine ⟨fun _ => ?_, fun _ => ?_⟩) | (apply And.intro; · kernel_rfl) | (apply And.intro; · (show inK _ _; unfold inK; omega)) | (apply And.intro; · (show (_ : Int) ≤ 9223372036854775807; (try simp only [List.length_append, List.length_drop, List.length_take, List.length_cons, List.length_nil]); omega))) | ((with_reducible show bothX _ _); refine bothI ?_ ?_; conv => whnf) | (with_reducible exact trivial) | ((with_reducible show CallN _ _ _ _ _ _ _ _); refine call_of env_ok rfl 1000 ?_) | ((with_reducible show XopN _ _ _ _ _ _); refine xop_of env_ok rfl 1000 ?_) | ((with_reducible show CallX _ _ _ _ _ _); first | fail) | ((with_reducible show OpX _ _ _ _); first | (refine opx_one rfl rfl Tryz.underlying83 (fun w => Tryz.sizeOf5 w) (fun w => Tryz.zeroValue5 w) rfl (fun g => ?_))) | ((with_reducible show ∃ _ : SV, _); first | (refine ⟨_, ?ok, x_bytesStr 0 [UInt8.ofNat (48 + n)] Tryz.underlying83 Tryz.underlying5 Tryz.underlying9 rfl (digit_byte n h), ?_⟩; (case ok => exact fun _ _ => trivial))) | ((with_reducible show ∃ _, _); first | fail))
    rfl
  · have hD : Lib.decDigits n = Lib.decDigits (n / 10) ++ [UInt8.ofNat (48 + n % 10)] := by rw [Lib.decDigits, dif_neg h]
    have HI := ih (n / 10) (by omega) (by omega)
    have hL := RfP.dig_len (n / 10) (by omega)
    have hq : (n : Int) / 10 = ((n / 10 : Nat) : Int) := by omega
    have hr : (n : Int) % 10 = ((n % 10 : Nat) : Int) := by omega
    have hm := digit_byte (n % 10) (by omega)
    rw [hD]
    clear ih hD
    generalize Lib.decDigits (n / 10) = L at *
    refine enter env_ok Tryz.func105 rfl Tryz.results105 Tryz.ntmps105 [] [] [.int .i64 (n : Int)] (by simp [SV.oks, SV.ok]) (Nat.le_of_ble_eq_true rfl) w _ 1000 ?_
    repeat' (first | ((with_reducible first | show wpS _ _ _ _ | show putD _ _ _ _ | show putW _ _ _ _ | show splitG _ _ _ | show wpQ _ _ _ _ _ _ | show wpD _ _ _ _ _ _ _ | show wpX _ _ _ _ _ _ | show expX _ _ _ _ _ _ | show stepX _ _ _ _); conv => whnf) | ((with_reducible show RetN _ _ _); refine retB fun β => ?_) | ((with_reducible show _ ∧ _); first | (apply And.intro; (· intro h; exfalso; first | omega | (revert h; decide)); intro _) | (apply And.intro; rotate_left; (· intro h; exfalso; first | omega | (revert h; decide)); intro _) | (refine ⟨fun _ => ?_, fun _ => ?_⟩) | (apply And.intro; · kernel_rfl) | (apply And.intro; · (show inK _ _; unfold inK; omega)) | (apply And.intro; · (show (_ : Int) ≤ 9223372036854775807; (try simp only [List.length_append, List.length_drop, List.length_take, List.length_cons, List.length_nil]); omega))) | ((with_reducible show bothX _ _); refine bothI ?_ ?_; conv => whnf) | (with_reducible exact trivial) | ((with_reducible show CallN _ _ _ _ _ _ _ _); refine call_of env_ok rfl 1000 ?_) | ((with_reducible show XopN _ _ _ _ _ _); refine xop_of env_ok rfl 1000 ?_) | ((with_reducible show CallX _ _ _ _ _ _); first | (refine callX (.str L) (by kernel_rfl) rfl (trivial) (fun β w hm => by simp only [SV.dens, SV.den]; rw [hq]; exact HI w) ?_)) | ((with_reducible show OpX _ _ _ _); first | (refine opx_one rfl rfl Tryz.underlying83 (fun w => Tryz.sizeOf5 w) (fun w => Tryz.zeroValue5 w) rfl (fun g => ?_))) | ((with_reducible show ∃ _ : SV, _); first | (refine ⟨_, ?ok, x_bytesStr 0 [UInt8.ofNat (48 + n % 10)] Tryz.underlying83 Tryz.underlying5 Tryz.underlying9 rfl (by rw [hr]; exact hm), ?_⟩; (case ok => exact fun _ _ => trivial)) | (refine ⟨_, ?ok, x_quo (by omega) (by omega) (by unfold inK; omega), ?_⟩; (case ok => exact fun _ _ => trivial)) | (refine ⟨_, ?ok, x_rem (by omega) (by omega), ?_⟩; (case ok => exact fun _ _ => trivial))) | ((with_reducible show ∃ _, _); first | fail))
    all_goals rfl
end Go.Proofs.YtmodjglbjempkaaGreatDoor
namespace Go.Proofs.YtmodjglbjempkaaGreatDoor
open Go.RowKit
open Sym
attribute [local irreducible] Calls
/-- what the library's functions ask of the world -/
structure LW (w : World) : Prop where
  tab : Lib.TabIs Tryz.prog w "internal/strconv.uint64pow10" .u64 Lib.pow10Tab
  max : ∃ m, w.cell? ⟨4, 0, none⟩ = some (.int .i64 m)
theorem LW.below {w w' : World} (h : LW w) (hb : Below w.heap.size w w') : LW w' := by
  obtain ⟨h1, m, h2⟩ := h
  refine ⟨?_, m, ?_⟩
  · unfold Lib.TabIs at h1 ⊢
    rw [← h1]
    unfold World.var?
    cases hg : Tryz.prog.globalNamed "internal/strconv.uint64pow10" with
    | none => rfl
    | some g =>
      have hlt : g < w.heap.size := by
        rcases Nat.lt_or_ge g w.heap.size with h0 | h0
        · exact h0
        · unfold World.var? at h1
          rw [hg] at h1
          simp [Array.getElem?_eq_none h0] at h1
      simp [hb.block g hlt]
  · have := World.block_lt_of_cell? w _ h2
    rw [World.cell?_of_block (w := w) (hb.block _ this)]; exact h2
theorem grown_ahead (w : World) (n : Nat) (os : Array Obj) : Below w.heap.size w (Go.Sort.grow (w.drewN n) os) := by
  refine ⟨rfl, rfl, rfl, by simp [Go.Sort.grow, World.drewN], fun k hk => ?_⟩
  show (w.heap ++ os)[k]? = _
  rw [Array.getElem?_append_left hk]
theorem itoa_any (n : Nat) (w : World) (hn : n < 4294967296) (hw : LW w) : Calls Tryz.prog 148 #[.int .i64 (n : Int)] w fun e w' => e = .returned (.string (bstr (Lib.decDigits n))) ∧ Below w.heap.size w w' := by
  refine (Tryz.strconv_Itoa (n : Int) (by omega) (by omega) w hw.tab).mono ?_
  rintro e w' ⟨rfl, k, os, rfl⟩
  refine ⟨by rw [Lib.itoa_nonneg]; rfl, ?_⟩
  first | exact grown_ahead w k os | exact ⟨rfl, rfl, rfl, by simp [Go.Sort.grow], fun j hj => by show (w.heap ++ os)[j]? = _; rw [Array.getElem?_append_left hj]⟩
set_option maxRecDepth 100000 in
set_option maxHeartbeats 2000000 in
theorem dollar_any (b : Bool) (s : List UInt8) (w : World) (hs : s.length ≤ 1000000) : Calls Tryz.prog 146 #[.bool b, .string (bstr s)] w fun e w' => e = .returned (.string (bstr (RfP.mkT b s))) ∧ Below w.heap.size w w' := by
  refine enter env_ok Tryz.func146 rfl Tryz.results146 Tryz.ntmps146 [] [] [.bool b, .str s] (by simp [SV.oks, SV.ok]) (Nat.le_of_ble_eq_true rfl) w _ 1000 ?_
  repeat' (first | ((with_reducible first | show wpS _ _ _ _ | show putD _ _ _ _ | show putW _ _ _ _ | show splitG _ _ _ | show wpQ _ _ _ _ _ _ | show wpD _ _ _ _ _ _ _ | show wpX _ _ _ _ _ _ | show expX _ _ _ _ _ _ | show stepX _ _ _ _); conv => whnf) | ((with_reducible show RetN _ _ _); refine retB fun β => ?_) | ((with_reducible show _ ∧ _); first | (apply And.intro; (· intro h; exfalso; first | omega | (revert h; decide)); intro _) | (apply And.intro; rotate_left; (· intro h; exfalso; first | omega | (revert h; decide)); intro _) | (refine ⟨fun _ => ?_, fun _ => ?_⟩) | (apply And.intro; · kernel_rfl) | (apply And.intro; · (show inK _ _; unfold inK; omega)) | (apply And.intro; · (show (_ : Int) ≤ 9223372036854775807; (try simp only [List.length_append, List.length_drop, List.length_take, List.length_cons, List.length_nil]); omega))) | ((with_reducible show bothX _ _); refine bothI ?_ ?_; conv => whnf) | (with_reducible exact trivial) | ((with_reducible show CallN _ _ _ _ _ _ _ _); refine call_of env_ok rfl 1000 ?_) | ((with_reducible show XopN _ _ _ _ _ _); refine xop_of env_ok rfl 1000 ?_) | ((with_reducible show CallX _ _ _ _ _ _); first | fail) | ((with_reducible show OpX _ _ _ _); first | fail) | ((with_reducible show ∃ _ : SV, _); first | fail) | ((with_reducible show ∃ _, _); first | fail))
  all_goals (subst_vars; rfl)
set_option maxRecDepth 100000 in
set_option maxHeartbeats 2000000 in
theorem mark_any (b : Bool) (s : List UInt8) (w : World) (hs : s.length ≤ 1000000) : Calls Tryz.prog 103 #[.string (bstr s), .bool b] w fun e w' => e = .returned (.string (bstr (RfP.mkT b s))) ∧ Below w.heap.size w w' := by
  refine enter env_ok Tryz.func103 rfl Tryz.results103 Tryz.ntmps103 [] [] [.str s, .bool b] (by simp [SV.oks, SV.ok]) (Nat.le_of_ble_eq_true rfl) w _ 1000 ?_
  repeat' (first | ((with_reducible first | show wpS _ _ _ _ | show putD _ _ _ _ | show putW _ _ _ _ | show splitG _ _ _ | show wpQ _ _ _ _ _ _ | show wpD _ _ _ _ _ _ _ | show wpX _ _ _ _ _ _ | show expX _ _ _ _ _ _ | show stepX _ _ _ _); conv => whnf) | ((with_reducible show RetN _ _ _); refine retB fun β => ?_) | ((with_reducible show _ ∧ _); first | (apply And.intro; (· intro h; exfalso; first | omega | (revert h; decide)); intro _) | (apply And.intro; rotate_left; (· intro h; exfalso; first | omega | (revert h; decide)); intro _) | (refine ⟨fun _ => ?_, fun _ => ?_⟩) | (apply And.intro; · kernel_rfl) | (apply And.intro; · (show inK _ _; unfold inK; omega)) | (apply And.intro; · (show (_ : Int) ≤ 9223372036854775807; (try simp only [List.length_append, List.length_drop, List.length_take, List.length_cons, List.length_nil]); omega))) | ((with_reducible show bothX _ _); refine bothI ?_ ?_; conv => whnf) | (with_reducible exact trivial) | ((with_reducible show CallN _ _ _ _ _ _ _ _); refine call_of env_ok rfl 1000 ?_) | ((with_reducible show XopN _ _ _ _ _ _); refine xop_of env_ok rfl 1000 ?_) | ((with_reducible show CallX _ _ _ _ _ _); first | fail) | ((with_reducible show OpX _ _ _ _); first | fail) | ((with_reducible show ∃ _ : SV, _); first | fail) | ((with_reducible show ∃ _, _); first | fail))
  all_goals (subst_vars; rfl)
theorem mkT_len (b : Bool) (s : List UInt8) : (RfP.mkT b s).length ≤ s.length + 1 := by
  unfold RfP.mkT; split <;> simp
theorem nat_of {n : Int} (h : 0 ≤ n) : ∃ m : Nat, n = (m : Int) := ⟨n.toNat, by omega⟩
set_option maxRecDepth 100000 in
set_option maxHeartbeats 2000000 in
theorem col_any (n : Int) (b : Bool) (w : World) (hn : 0 ≤ n ∧ n < 1073741824) : Calls Tryz.prog 131 #[.int .i64 n, .bool b] w fun e w' => e = .returned (.string (bstr (RfP.colT n b))) ∧ Below w.heap.size w w' := by
  obtain ⟨m, rfl⟩ := nat_of hn.1
  have hl := RfP.ltr_len 8 (m + 1)
  refine enter env_ok Tryz.func131 rfl Tryz.results131 Tryz.ntmps131 [] [] [.int .i64 (m : Int), .bool b] (by simp [SV.oks, SV.ok]) (Nat.le_of_ble_eq_true rfl) w _ 1000 ?_
  repeat' (first | ((with_reducible first | show wpS _ _ _ _ | show putD _ _ _ _ | show putW _ _ _ _ | show splitG _ _ _ | show wpQ _ _ _ _ _ _ | show wpD _ _ _ _ _ _ _ | show wpX _ _ _ _ _ _ | show expX _ _ _ _ _ _ | show stepX _ _ _ _); conv => whnf) | ((with_reducible show RetN _ _ _); refine retB fun β => ?_) | ((with_reducible show _ ∧ _); first | (apply And.intro; (· intro h; exfalso; first | omega | (revert h; decide)); intro _) | (apply And.intro; rotate_left; (· intro h; exfalso; first | omega | (revert h; decide)); intro _) | (refine ⟨fun _ => ?_, fun _ => ?_⟩) | (apply And.intro; · kernel_rfl) | (apply And.intro; · (show inK _ _; unfold inK; omega)) | (apply And.intro; · (show (_ : Int) ≤ 9223372036854775807; (try simp only [List.length_append, List.length_drop, List.length_take, List.length_cons, List.length_nil]); omega))) | ((with_reducible show bothX _ _); refine bothI ?_ ?_; conv => whnf) | (with_reducible exact trivial) | ((with_reducible show CallN _ _ _ _ _ _ _ _); refine call_of env_ok rfl 1000 ?_) | ((with_reducible show XopN _ _ _ _ _ _); refine xop_of env_ok rfl 1000 ?_) | ((with_reducible show CallX _ _ _ _ _ _); first | (refine callX (.str (RfP.ltr 8 (m + 1))) (by kernel_rfl) rfl (trivial) (fun β w hm => letters_any m w (by omega)) ?_) | (refine callX (.str (RfP.mkT b (RfP.ltr 8 (m + 1)))) (by kernel_rfl) rfl (trivial) (fun β w hm => dollar_any b _ w (by omega)) ?_)) | ((with_reducible show OpX _ _ _ _); first | fail) | ((with_reducible show ∃ _ : SV, _); first | fail) | ((with_reducible show ∃ _, _); first | fail))
  rfl
set_option maxRecDepth 100000 in
set_option maxHeartbeats 2000000 in
theorem row_any (n : Int) (b : Bool) (w : World) (hn : 0 ≤ n ∧ n < 1073741824) (hw : LW w) : Calls Tryz.prog 132 #[.int .i64 n, .bool b] w fun e w' => e = .returned (.string (bstr (RfP.rowT n b))) ∧ Below w.heap.size w w' := by
  obtain ⟨m, rfl⟩ := nat_of hn.1
  have hl := RfP.dig_len (m + 1) (by omega)
  refine enter env_ok Tryz.func132 rfl Tryz.results132 Tryz.ntmps132 [] [] [.int .i64 (m : Int), .bool b] (by simp [SV.oks, SV.ok]) (Nat.le_of_ble_eq_true rfl) w _ 1000 ?_
  repeat' (first | ((with_reducible first | show wpS _ _ _ _ | show putD _ _ _ _ | show putW _ _ _ _ | show splitG _ _ _ | show wpQ _ _ _ _ _ _ | show wpD _ _ _ _ _ _ _ | show wpX _ _ _ _ _ _ | show expX _ _ _ _ _ _ | show stepX _ _ _ _); conv => whnf) | ((with_reducible show RetN _ _ _); refine retB fun β => ?_) | ((with_reducible show _ ∧ _); first | (apply And.intro; (· intro h; exfalso; first | omega | (revert h; decide)); intro _) | (apply And.intro; rotate_left; (· intro h; exfalso; first | omega | (revert h; decide)); intro _) | (refine ⟨fun _ => ?_, fun _ => ?_⟩) | (apply And.intro; · kernel_rfl) | (apply And.intro; · (show inK _ _; unfold inK; omega)) | (apply And.intro; · (show (_ : Int) ≤ 9223372036854775807; (try simp only [List.length_append, List.length_drop, List.length_take, List.length_cons, List.length_nil]); omega))) | ((with_reducible show bothX _ _); refine bothI ?_ ?_; conv => whnf) | (with_reducible exact trivial) | ((with_reducible show CallN _ _ _ _ _ _ _ _); refine call_of env_ok rfl 1000 ?_) | ((with_reducible show XopN _ _ _ _ _ _); refine xop_of env_ok rfl 1000 ?_) | ((with_reducible show CallX _ _ _ _ _ _); first | (refine callX (.str (Lib.decDigits (m + 1))) (by kernel_rfl) rfl (trivial) (fun β w hm => itoa_any (m + 1) w (by omega) (hw.below hm.below)) ?_) | (refine callX (.str (RfP.mkT b (Lib.decDigits (m + 1)))) (by kernel_rfl) rfl (trivial) (fun β w hm => dollar_any b _ w (by omega)) ?_)) | ((with_reducible show OpX _ _ _ _); first | fail) | ((with_reducible show ∃ _ : SV, _); first | fail) | ((with_reducible show ∃ _, _); first | fail))
  rfl
theorem colT_len (n : Int) (b : Bool) : (RfP.colT n b).length ≤ 9 := by
  have := mkT_len b (RfP.ltr 8 (n.toNat + 1))
  have := RfP.ltr_len 8 (n.toNat + 1)
  unfold RfP.colT; omega
theorem rowT_len (n : Int) (b : Bool) (hn : 0 ≤ n ∧ n < 1073741824) : (RfP.rowT n b).length ≤ 12 := by
  have := mkT_len b (Lib.decDigits (n.toNat + 1))
  have := RfP.dig_len (n.toNat + 1) (by omega)
  unfold RfP.rowT; omega
theorem replaceAll_any (s : List UInt8) (w : World) (hw : LW w) (hs : s.length ≤ 200) : Calls Tryz.prog 130 #[.string (bstr s), .string (bstr [39]), .string (bstr [39, 39])] w fun e w' => e = .returned (.string (bstr (RfP.dbl s))) ∧ Below w.heap.size w w' := by
  obtain ⟨m, hm⟩ := hw.max
  have hc : Lib.countB (bstr s) (bstr [39]) ≤ s.length + 1 := Lib.count_le _ _
  refine (Tryz.strings_ReplaceAll (bstr s) (bstr [39]) (bstr [39, 39]) m w (by rw [bstr_size]; omega) hm (by decide) (by rw [bstr_size, show (bstr [39, 39]).size = 2 from rfl]; omega)).mono ?_
  rintro e w' ⟨rfl, hb⟩
  refine ⟨?_, hb⟩
  have := RfP.replace_one 39 [39, 39] (by decide) s
  show Ending.returned (.string (bstr (Lib.replaceAll s [39] [39, 39]))) = _
  rw [this]; rfl
theorem ref_name {x : RfP.Ref} (h : RfP.checkP x = 0) : x.sh.length ≤ 200 := by
  unfold RfP.checkP at h
  by_cases h0 : x.k < 0 ∨ 4 < x.k
  · rw [if_pos h0] at h; omega
  rw [if_neg h0] at h
  by_cases h1 : RfP.nameP x.sh ≠ 0
  · rw [if_pos h1] at h; exact absurd h h1
  · unfold RfP.nameP at h1
    by_cases h2 : 200 < x.sh.length
    · rw [if_pos h2] at h1; simp at h1
    · omega
end Go.Proofs.YtmodjglbjempkaaGreatDoor
namespace Go.Proofs.YtmodjglbjempkaaGreatDoor
open Go.RowKit
open Sym
attribute [local irreducible] Calls
namespace RfP
def printP (x : Ref) : Str × Int := if checkP x = 0 then (textP x, 0) else ([], checkP x)
end RfP
theorem text0 {x : RfP.Ref} (h : x.k = 0) : RfP.textP x = RfP.sheetT x.sh ++ RfP.colT x.c x.ac ++ RfP.rowT x.r x.ar := by unfold RfP.textP; rw [if_pos h]
theorem text1 {x : RfP.Ref} (h : x.k = 1) : RfP.textP x = RfP.sheetT x.sh ++ RfP.colT x.c x.ac ++ RfP.rowT x.r x.ar ++ [58] ++ RfP.colT x.c2 x.ac2 ++ RfP.rowT x.r2 x.ar2 := by unfold RfP.textP; rw [if_neg (by omega), if_pos h]
theorem text2 {x : RfP.Ref} (h : x.k = 2) : RfP.textP x = RfP.sheetT x.sh ++ RfP.rowT x.r x.ar ++ [58] ++ RfP.rowT x.r2 x.ar2 := by unfold RfP.textP; rw [if_neg (by omega), if_neg (by omega), if_pos h]
theorem text3 {x : RfP.Ref} (h : x.k = 3) : RfP.textP x = RfP.sheetT x.sh ++ RfP.colT x.c x.ac ++ [58] ++ RfP.colT x.c2 x.ac2 := by unfold RfP.textP; rw [if_neg (by omega), if_neg (by omega), if_neg (by omega), if_pos h]
theorem text4 {x : RfP.Ref} (h : x.k = 4) : RfP.textP x = RfP.refTxt := by unfold RfP.textP; rw [if_neg (by omega), if_neg (by omega), if_neg (by omega), if_neg (by omega)]
theorem sheet0 {s : List UInt8} (h : s = []) : RfP.sheetT s = [] := by unfold RfP.sheetT; rw [if_pos h]
theorem sheet1 {s : List UInt8} (h : ¬ s = []) (hp : RfP.plain s = true) : RfP.sheetT s = s ++ [33] := by unfold RfP.sheetT; rw [if_neg h, if_pos hp]
theorem sheet2 {s : List UInt8} (h : ¬ s = []) (hp : RfP.plain s = false) : RfP.sheetT s = [39] ++ RfP.dbl s ++ [39, 33] := by unfold RfP.sheetT; rw [if_neg h, if_neg (by rw [hp]; simp)]
set_option maxRecDepth 100000 in
set_option maxHeartbeats 4000000 in
theorem print_bad (x : RfP.Ref) (w : World) (h : RfP.checkP x ≠ 0) : Calls Tryz.prog 101 #[.agg (refC x)] w fun e w' => e = .returned (.tuple #[.string (bstr []), .int .i64 (RfP.checkP x)]) ∧ Below w.heap.size w w' := by
  have HC := fun w => Check_any x w
  generalize RfP.checkP x = E at *
  refine enter env_ok Tryz.func101 rfl Tryz.results101 Tryz.ntmps101 [] [] [rS x] ⟨rS_ok x 0, trivial⟩ (Nat.le_of_ble_eq_true rfl) w _ 1000 ?_
  repeat' (first | ((with_reducible first | show wpS _ _ _ _ | show putD _ _ _ _ | show putW _ _ _ _ | show splitG _ _ _ | show wpQ _ _ _ _ _ _ | show wpD _ _ _ _ _ _ _ | show wpX _ _ _ _ _ _ | show expX _ _ _ _ _ _ | show stepX _ _ _ _); conv => whnf) | ((with_reducible show RetN _ _ _); refine retB fun β => ?_) | ((with_reducible show _ ∧ _); first | (apply And.intro; (· intro h; exfalso; first | omega | (revert h; decide)); intro _) | (apply And.intro; rotate_left; (· intro h; exfalso; first | omega | (revert h; decide)); intro _) | (refine ⟨fun _ => ?_, fun _ => ?_⟩) | (apply And.intro; · kernel_rfl) | (apply And.intro; · (show inK _ _; unfold inK; omega)) | (apply And.intro; · (show (_ : Int) ≤ 9223372036854775807; (try simp only [List.length_append, List.length_drop, List.length_take, List.length_cons, List.length_nil]); omega))) | ((with_reducible show bothX _ _); refine bothI ?_ ?_; conv => whnf) | (with_reducible exact trivial) | ((with_reducible show CallN _ _ _ _ _ _ _ _); refine call_of env_ok rfl 1000 ?_) | ((with_reducible show XopN _ _ _ _ _ _); refine xop_of env_ok rfl 1000 ?_) | ((with_reducible show CallX _ _ _ _ _ _); first | (refine callX (.int .i64 E) (by kernel_rfl) rfl (trivial) (fun β w hm => HC w) ?_)) | ((with_reducible show OpX _ _ _ _); first | fail) | ((with_reducible show ∃ _ : SV, _); first | fail) | ((with_reducible show ∃ _, _); first | fail))
  rfl
set_option maxRecDepth 100000 in
set_option maxHeartbeats 8000000 in
theorem print_ok (x : RfP.Ref) (w : World) (hw : LW w) (h : RfP.checkP x = 0) : Calls Tryz.prog 101 #[.agg (refC x)] w fun e w' => e = .returned (.tuple #[.string (bstr (RfP.textP x)), .int .i64 0]) ∧ Below w.heap.size w w' := by
  have HC := fun w => Check_any x w
  rw [h] at HC
  obtain ⟨hk, hr, hc, hr2, hc2⟩ := ref_bounds h
  have hn := ref_name h
  clear h
  have hd := RfP.dbl_len x.sh
  have l1 := colT_len x.c x.ac
  have l2 := colT_len x.c2 x.ac2
  have l3 := rowT_len x.r x.ar hr
  have l4 := rowT_len x.r2 x.ar2 hr2
  refine enter env_ok Tryz.func101 rfl Tryz.results101 Tryz.ntmps101 [] [] [rS x] ⟨rS_ok x 0, trivial⟩ (Nat.le_of_ble_eq_true rfl) w _ 1000 ?_
  repeat' (first | ((with_reducible first | show wpS _ _ _ _ | show putD _ _ _ _ | show putW _ _ _ _ | show splitG _ _ _ | show wpQ _ _ _ _ _ _ | show wpD _ _ _ _ _ _ _ | show wpX _ _ _ _ _ _ | show expX _ _ _ _ _ _ | show stepX _ _ _ _); conv => whnf) | ((with_reducible show RetN _ _ _); refine retB fun β => ?_) | ((with_reducible show _ ∧ _); first | (apply And.intro; (· intro h; exfalso; first | omega | (revert h; decide)); intro _) | (apply And.intro; rotate_left; (· intro h; exfalso; first | omega | (revert h; decide)); intro _) | (refine ⟨fun _ => ?_, fun _ => ?_⟩) | (apply And.intro; · kernel_rfl) | (apply And.intro; · (show inK _ _; unfold inK; omega)) | (apply And.intro; · (show (_ : Int) ≤ 9223372036854775807; (try simp only [List.length_append, List.length_drop, List.length_take, List.length_cons, List.length_nil]); omega))) | ((with_reducible show bothX _ _); refine bothI ?_ ?_; conv => whnf) | (with_reducible exact trivial) | ((with_reducible show CallN _ _ _ _ _ _ _ _); refine call_of env_ok rfl 1000 ?_) | ((with_reducible show XopN _ _ _ _ _ _); refine xop_of env_ok rfl 1000 ?_) | ((with_reducible show CallX _ _ _ _ _ _); first | (refine callX (.int .i64 0) (by kernel_rfl) rfl (trivial) (fun β w hm => HC w) ?_) | (refine callX (.bool (RfP.plain x.sh)) (by kernel_rfl) rfl (trivial) (fun β w hm => quiet (Plain_any x.sh w (by omega))) ?_) | (refine callX (.str (RfP.dbl x.sh)) (by kernel_rfl) rfl (trivial) (fun β w hm => replaceAll_any x.sh w (hw.below hm.below) hn) ?_)) | ((with_reducible show OpX _ _ _ _); first | fail) | ((with_reducible show ∃ _ : SV, _); first | (refine ⟨.str (RfP.colT x.c x.ac), by kernel_rfl, trivial, fun β w hm => col_any x.c x.ac w hc, ?_⟩) | (refine ⟨.str (RfP.colT x.c2 x.ac2), by kernel_rfl, trivial, fun β w hm => col_any x.c2 x.ac2 w hc2, ?_⟩) | (refine ⟨.str (RfP.rowT x.r x.ar), by kernel_rfl, trivial, fun β w hm => row_any x.r x.ar w hr (hw.below hm.below), ?_⟩) | (refine ⟨.str (RfP.rowT x.r2 x.ar2), by kernel_rfl, trivial, fun β w hm => row_any x.r2 x.ar2 w hr2 (hw.below hm.below), ?_⟩)) | ((with_reducible show ∃ _, _); first | fail))
  all_goals first | rw [text0 (by assumption)] | rw [text1 (by assumption)] | rw [text2 (by assumption)] | rw [text3 (by assumption)] | rw [text4 (by omega)]
  all_goals first | rfl | (rw [sheet0 (Classical.not_not.1 ‹¬¬x.sh = []›)]; rfl) | (rw [sheet1 (by assumption) (by simpa using ‹(!RfP.plain x.sh) = false›)]; rfl) | (rw [sheet2 (by assumption) (by simpa using ‹(!RfP.plain x.sh) = true›)]; rfl)
theorem Print_any (x : RfP.Ref) (w : World) (hw : LW w) : Calls Tryz.prog 101 #[.agg (refC x)] w fun e w' => e = .returned (.tuple #[.string (bstr (RfP.printP x).1), .int .i64 (RfP.printP x).2]) ∧ Below w.heap.size w w' := by
  unfold RfP.printP
  by_cases h : RfP.checkP x = 0
  · rw [if_pos h]; exact print_ok x w hw h
  · rw [if_neg h]; exact print_bad x w h
end Go.Proofs.YtmodjglbjempkaaGreatDoor
namespace Go.Proofs.YtmodjglbjempkaaGreatDoor
open Go.RowKit
open Sym
attribute [local irreducible] Calls
theorem rcol_any (n : Int) (w : World) (hn : 0 ≤ n ∧ n < 1073741824) : Calls Tryz.prog 104 #[.int .i64 n] w fun e w' => e = .returned (.string (bstr (RfP.ltr 8 (n.toNat + 1)))) ∧ Below w.heap.size w w' := by
  obtain ⟨m, rfl⟩ := nat_of hn.1
  exact RLetters_any m w (by omega)
theorem rdec_any (n : Int) (w : World) (hn : 0 ≤ n ∧ n < 1073741824) : Calls Tryz.prog 105 #[.int .i64 (n + 1)] w fun e w' => e = .returned (.string (bstr (Lib.decDigits (n.toNat + 1)))) ∧ Below w.heap.size w w' := by
  obtain ⟨m, rfl⟩ := nat_of hn.1
  exact Decimal_any (m + 1) (by omega) w
theorem dbl_next (s : List UInt8) (k : Nat) (h : k < s.length) : RfP.dbl (s.take (k + 1)) = RfP.dbl (s.take k) ++ (if s.getD k 0 = 39 then [39, 39] else [s.getD k 0]) := by
  rw [take_next0 s k h]
  unfold RfP.dbl
  rw [List.flatMap_append]
  simp
theorem sub_one (s : List UInt8) (k : Nat) (h : k < s.length) : (s.take (k + 1)).drop k = [s.getD k 0] := by
  rw [take_next0 s k h, List.drop_append_of_le_length (by simp; omega), List.drop_eq_nil_of_le (by simp; omega)]; rfl
theorem byte_eq {c : UInt8} {k : Nat} (hk : k < 256) (h : (c.toNat : Int) = (k : Int)) : c = UInt8.ofNat k := by
  apply UInt8.toNat_inj.1; simp; omega
set_option maxRecDepth 100000 in
set_option maxHeartbeats 8000000 in
theorem RefText_any (x : RfP.Ref) (w : World) (h : RfP.checkP x = 0) : Calls Tryz.prog 50 #[.agg (refC x)] w fun e w' => e = .returned (.string (bstr (RfP.textP x))) ∧ Below w.heap.size w w' := by
  obtain ⟨hk, hr, hc, hr2, hc2⟩ := ref_bounds h
  have hn := ref_name h
  clear h
  have hd := RfP.dbl_len x.sh
  have l1 := colT_len x.c x.ac
  have l2 := colT_len x.c2 x.ac2
  have l3 := rowT_len x.r x.ar hr
  have l4 := rowT_len x.r2 x.ar2 hr2
  have d1 := RfP.ltr_len 8 (x.c.toNat + 1)
  have d2 := RfP.ltr_len 8 (x.c2.toNat + 1)
  have d3 := RfP.dig_len (x.r.toNat + 1) (by omega)
  have d4 := RfP.dig_len (x.r2.toNat + 1) (by omega)
  refine enter env_ok Tryz.func50 rfl Tryz.results50 Tryz.ntmps50 [] [] [rS x] ⟨rS_ok x 0, trivial⟩ (Nat.le_of_ble_eq_true rfl) w _ 1000 ?_
  repeat' (first | ((with_reducible first | show wpS _ _ _ _ | show putD _ _ _ _ | show putW _ _ _ _ | show splitG _ _ _ | show wpQ _ _ _ _ _ _ | show wpD _ _ _ _ _ _ _ | show wpX _ _ _ _ _ _ | show expX _ _ _ _ _ _ | show stepX _ _ _ _); conv => whnf) | ((with_reducible show RetN _ _ _); refine retB fun β => ?_) | ((with_reducible show _ ∧ _); first | (apply And.intro; (· intro h; exfalso; first | omega | (revert h; decide)); intro _) | (apply And.intro; rotate_left; (· intro h; exfalso; first | omega | (revert h; decide)); intro _) | (refine ⟨fun _ => ?_, fun _ => ?_⟩) | (apply And.intro; · kernel_rfl) | (apply And.intro; · (show inK _ _; unfold inK; omega)) | (apply And.intro; · (show (_ : Int) ≤ 9223372036854775807; (try simp only [List.length_append, List.length_drop, List.length_take, List.length_cons, List.length_nil]); omega))) | ((with_reducible show bothX _ _); refine bothI ?_ ?_; conv => whnf) | (with_reducible exact trivial) | ((with_reducible show CallN _ _ _ _ _ _ _ _); refine call_of env_ok rfl 1000 ?_) | ((with_reducible show XopN _ _ _ _ _ _); refine xop_of env_ok rfl 1000 ?_) | ((with_reducible show CallX _ _ _ _ _ _); first | (refine callX (.bool (RfP.plain x.sh)) (by kernel_rfl) rfl (trivial) (fun β w hm => quiet (RPlain_any x.sh w (by omega))) ?_)) | ((with_reducible show OpX _ _ _ _); first | fail) | ((with_reducible show ∃ _ : SV, _); first | (refine ⟨.str (RfP.ltr 8 (x.c.toNat + 1)), by kernel_rfl, trivial, fun β w hm => rcol_any x.c w hc, ?_⟩) | (refine ⟨.str (RfP.ltr 8 (x.c2.toNat + 1)), by kernel_rfl, trivial, fun β w hm => rcol_any x.c2 w hc2, ?_⟩) | (refine ⟨.str (Lib.decDigits (x.r.toNat + 1)), by kernel_rfl, trivial, fun β w hm => rdec_any x.r w hr, ?_⟩) | (refine ⟨.str (Lib.decDigits (x.r2.toNat + 1)), by kernel_rfl, trivial, fun β w hm => rdec_any x.r2 w hr2, ?_⟩) | (refine ⟨.str (RfP.colT x.c x.ac), by kernel_rfl, trivial, fun β w hm => mark_any x.ac _ w (by omega), ?_⟩) | (refine ⟨.str (RfP.colT x.c2 x.ac2), by kernel_rfl, trivial, fun β w hm => mark_any x.ac2 _ w (by omega), ?_⟩) | (refine ⟨.str (RfP.rowT x.r x.ar), by kernel_rfl, trivial, fun β w hm => mark_any x.ar _ w (by omega), ?_⟩) | (refine ⟨.str (RfP.rowT x.r2 x.ar2), by kernel_rfl, trivial, fun β w hm => mark_any x.ar2 _ w (by omega), ?_⟩) | (refine ⟨_, ?ok, x_indexPtr (j := 0) Tryz.underlying61 (fun w => Tryz.sizeOf9 w) (by omega), ?_⟩; (case ok => exact fun n h => h.1)) | (refine ⟨_, ?ok, x_indexPtr (j := 1) Tryz.underlying61 (fun w => Tryz.sizeOf9 w) (by omega), ?_⟩; (case ok => exact fun n h => h.1))) | ((with_reducible show ∃ _, _); first | fail))
  case refine_2.refine_1.refine_1 =>
    have hp : RfP.plain x.sh = false := by simpa using ‹(!RfP.plain x.sh) = true›
    have he : ¬ x.sh = [] := by assumption
    refine loop env_ok rfl (T := {k : Nat // k ≤ x.sh.length}) (fun t => ⟨[(1, .ptr 0 0), (3, .str ([39] ++ RfP.dbl (x.sh.take t.1))), (19, .int .i64 (x.sh.length : Int)), (20, .int .i64 (t.1 : Int))], [(0, true, .cells 35 (rF x))], 1, 100⟩) (fun t => x.sh.length - t.1) ⟨0, Nat.zero_le _⟩ 1000 [] [] (fun _ => Nat.zero_le _) (by ((with_reducible show wk _ _); repeat' (first | exact trivial | exact eqSV_refl _ | (refine eqI ?_) | (refine eqS ?_) | (with_reducible exact rfl) | apply And.intro | exact Nat.zero_lt_one | exact Nat.le_of_ble_eq_true rfl | (with_reducible assumption) | ((show (_ : Int) = _); (try dsimp only); omega) | ((show eqSV _ _); simp [eqSV, isB, bval, *]; done) | rfl))) (fun t I hI => ?_)
    obtain ⟨k, hkl⟩ := t
    dsimp only
    have hdk := RfP.dbl_len (x.sh.take k)
    have htk : (x.sh.take k).length ≤ 200 := by rw [List.length_take]; omega
    by_cases hlt : k < x.sh.length
    · have hN := dbl_next x.sh k hlt
      have hS := sub_one x.sh k hlt
      repeat' (first | ((with_reducible first | show wpS _ _ _ _ | show putD _ _ _ _ | show putW _ _ _ _ | show splitG _ _ _ | show wpQ _ _ _ _ _ _ | show wpD _ _ _ _ _ _ _ | show wpX _ _ _ _ _ _ | show expX _ _ _ _ _ _ | show stepX _ _ _ _); conv => whnf) | ((with_reducible show RetN _ _ _); refine retB fun β => ?_) | ((with_reducible show _ ∧ _); first | (apply And.intro; (· intro h; exfalso; first | omega | (revert h; decide)); intro _) | (apply And.intro; rotate_left; (· intro h; exfalso; first | omega | (revert h; decide)); intro _) | (refine ⟨fun _ => ?_, fun _ => ?_⟩) | (apply And.intro; · kernel_rfl) | (apply And.intro; · (show inK _ _; unfold inK; omega)) | (apply And.intro; · (show (_ : Int) ≤ 9223372036854775807; (try simp only [List.length_append, List.length_drop, List.length_take, List.length_cons, List.length_nil]); omega))) | ((with_reducible show bothX _ _); refine bothI ?_ ?_; conv => whnf) | (with_reducible exact trivial) | ((with_reducible show CallN _ _ _ _ _ _ _ _); refine call_of env_ok rfl 1000 ?_) | ((with_reducible show XopN _ _ _ _ _ _); refine xop_of env_ok rfl 1000 ?_) | ((with_reducible show CallX _ _ _ _ _ _); first | (refine callX (.bool (RfP.plain x.sh)) (by kernel_rfl) rfl (trivial) (fun β w hm => quiet (RPlain_any x.sh w (by omega))) ?_)) | ((with_reducible show OpX _ _ _ _); first | fail) | ((with_reducible show ∃ _ : SV, _); first | (refine ⟨.str (RfP.ltr 8 (x.c.toNat + 1)), by kernel_rfl, trivial, fun β w hm => rcol_any x.c w hc, ?_⟩) | (refine ⟨.str (RfP.ltr 8 (x.c2.toNat + 1)), by kernel_rfl, trivial, fun β w hm => rcol_any x.c2 w hc2, ?_⟩) | (refine ⟨.str (Lib.decDigits (x.r.toNat + 1)), by kernel_rfl, trivial, fun β w hm => rdec_any x.r w hr, ?_⟩) | (refine ⟨.str (Lib.decDigits (x.r2.toNat + 1)), by kernel_rfl, trivial, fun β w hm => rdec_any x.r2 w hr2, ?_⟩) | (refine ⟨.str (RfP.colT x.c x.ac), by kernel_rfl, trivial, fun β w hm => mark_any x.ac _ w (by omega), ?_⟩) | (refine ⟨.str (RfP.colT x.c2 x.ac2), by kernel_rfl, trivial, fun β w hm => mark_any x.ac2 _ w (by omega), ?_⟩) | (refine ⟨.str (RfP.rowT x.r x.ar), by kernel_rfl, trivial, fun β w hm => mark_any x.ar _ w (by omega), ?_⟩) | (refine ⟨.str (RfP.rowT x.r2 x.ar2), by kernel_rfl, trivial, fun β w hm => mark_any x.ar2 _ w (by omega), ?_⟩) | (refine ⟨_, ?ok, x_indexPtr (j := 0) Tryz.underlying61 (fun w => Tryz.sizeOf9 w) (by omega), ?_⟩; (case ok => exact fun n h => h.1)) | (refine ⟨_, ?ok, x_indexPtr (j := 1) Tryz.underlying61 (fun w => Tryz.sizeOf9 w) (by omega), ?_⟩; (case ok => exact fun n h => h.1))) | ((with_reducible show ∃ _, _); first | (refine ⟨k, k + 1, rfl, by omega, by omega, by omega, ?_⟩) | (refine ⟨k, rfl, hlt, ?_⟩)))
      · refine hI _ ⟨k + 1, hlt⟩ (by dsimp only; omega) ?_
        have hc : x.sh.getD k 0 = 39 := byte_eq (k := 39) (by omega) (by assumption)
        rw [if_pos hc] at hN
        dsimp only
        rw [hN, hS, hc]
        ((with_reducible show wk _ _); repeat' (first | exact trivial | exact eqSV_refl _ | (refine eqI ?_) | (refine eqS ?_) | (with_reducible exact rfl) | apply And.intro | exact Nat.zero_lt_one | exact Nat.le_of_ble_eq_true rfl | (with_reducible assumption) | ((show (_ : Int) = _); (try dsimp only); omega) | ((show eqSV _ _); simp [eqSV, isB, bval, *]; done) | rfl))
        all_goals simp
      · refine hI _ ⟨k + 1, hlt⟩ (by dsimp only; omega) ?_
        have hc : ¬ x.sh.getD k 0 = 39 := fun e => by simp_all
        rw [if_neg hc] at hN
        dsimp only
        rw [hN, hS]
        ((with_reducible show wk _ _); repeat' (first | exact trivial | exact eqSV_refl _ | (refine eqI ?_) | (refine eqS ?_) | (with_reducible exact rfl) | apply And.intro | exact Nat.zero_lt_one | exact Nat.le_of_ble_eq_true rfl | (with_reducible assumption) | ((show (_ : Int) = _); (try dsimp only); omega) | ((show eqSV _ _); simp [eqSV, isB, bval, *]; done) | rfl))
        all_goals simp
    · rw [List.take_of_length_le (by omega)] at hdk ⊢
      repeat' (first | ((with_reducible first | show wpS _ _ _ _ | show putD _ _ _ _ | show putW _ _ _ _ | show splitG _ _ _ | show wpQ _ _ _ _ _ _ | show wpD _ _ _ _ _ _ _ | show wpX _ _ _ _ _ _ | show expX _ _ _ _ _ _ | show stepX _ _ _ _); conv => whnf) | ((with_reducible show RetN _ _ _); refine retB fun β => ?_) | ((with_reducible show _ ∧ _); first | (apply And.intro; (· intro h; exfalso; first | omega | (revert h; decide)); intro _) | (apply And.intro; rotate_left; (· intro h; exfalso; first | omega | (revert h; decide)); intro _) | (refine ⟨fun _ => ?_, fun _ => ?_⟩) | (apply And.intro; · kernel_rfl) | (apply And.intro; · (show inK _ _; unfold inK; omega)) | (apply And.intro; · (show (_ : Int) ≤ 9223372036854775807; (try simp only [List.length_append, List.length_drop, List.length_take, List.length_cons, List.length_nil]); omega))) | ((with_reducible show bothX _ _); refine bothI ?_ ?_; conv => whnf) | (with_reducible exact trivial) | ((with_reducible show CallN _ _ _ _ _ _ _ _); refine call_of env_ok rfl 1000 ?_) | ((with_reducible show XopN _ _ _ _ _ _); refine xop_of env_ok rfl 1000 ?_) | ((with_reducible show CallX _ _ _ _ _ _); first | (refine callX (.bool (RfP.plain x.sh)) (by kernel_rfl) rfl (trivial) (fun β w hm => quiet (RPlain_any x.sh w (by omega))) ?_)) | ((with_reducible show OpX _ _ _ _); first | fail) | ((with_reducible show ∃ _ : SV, _); first | (refine ⟨.str (RfP.ltr 8 (x.c.toNat + 1)), by kernel_rfl, trivial, fun β w hm => rcol_any x.c w hc, ?_⟩) | (refine ⟨.str (RfP.ltr 8 (x.c2.toNat + 1)), by kernel_rfl, trivial, fun β w hm => rcol_any x.c2 w hc2, ?_⟩) | (refine ⟨.str (Lib.decDigits (x.r.toNat + 1)), by kernel_rfl, trivial, fun β w hm => rdec_any x.r w hr, ?_⟩) | (refine ⟨.str (Lib.decDigits (x.r2.toNat + 1)), by kernel_rfl, trivial, fun β w hm => rdec_any x.r2 w hr2, ?_⟩) | (refine ⟨.str (RfP.colT x.c x.ac), by kernel_rfl, trivial, fun β w hm => mark_any x.ac _ w (by omega), ?_⟩) | (refine ⟨.str (RfP.colT x.c2 x.ac2), by kernel_rfl, trivial, fun β w hm => mark_any x.ac2 _ w (by omega), ?_⟩) | (refine ⟨.str (RfP.rowT x.r x.ar), by kernel_rfl, trivial, fun β w hm => mark_any x.ar _ w (by omega), ?_⟩) | (refine ⟨.str (RfP.rowT x.r2 x.ar2), by kernel_rfl, trivial, fun β w hm => mark_any x.ar2 _ w (by omega), ?_⟩) | (refine ⟨_, ?ok, x_indexPtr (j := 0) Tryz.underlying61 (fun w => Tryz.sizeOf9 w) (by omega), ?_⟩; (case ok => exact fun n h => h.1)) | (refine ⟨_, ?ok, x_indexPtr (j := 1) Tryz.underlying61 (fun w => Tryz.sizeOf9 w) (by omega), ?_⟩; (case ok => exact fun n h => h.1))) | ((with_reducible show ∃ _, _); first | fail))
      all_goals first | rw [text0 (by assumption)] | rw [text1 (by omega)] | rw [text2 (by omega)] | rw [text3 (by omega)]
      all_goals (rw [sheet2 he hp]; simp [SV.den, RfP.colT, RfP.rowT]; done)
  all_goals first | rw [text0 (by assumption)] | rw [text1 (by omega)] | rw [text2 (by omega)] | rw [text3 (by omega)] | rw [text4 (by assumption)]
  all_goals first | rfl | (rw [sheet0 (Classical.not_not.1 ‹¬¬x.sh = []›)]; simp [SV.den]; done) | (rw [sheet1 (by assumption) (by simpa using ‹(!RfP.plain x.sh) = false›)]; simp [SV.den]; done)
end Go.Proofs.YtmodjglbjempkaaGreatDoor
