/- The law of operations: its helpers, and the law itself. Whole numbers as texts and fractions: the reference's Decimal, unsigned, Whole; the program's Of, Ratio. Whole numbers as fractions: the reference's unsigned, Whole; the program's Of, Ratio. Decimal numbers read: the program's Parse. -/
import Derived.Test.YtdkhkfdenlabaaaGreatDoorVGL
set_option linter.unusedSimpArgs false
set_option linter.unusedVariables false
namespace Go.Proofs.YtdkhkfdenlabaaaGreatDoor
open Go.RowKit
open Sym
attribute [local irreducible] Calls Sym.AggEq ExP.nd ExP.dig ExP.upd
set_option maxRecDepth 100000 in
theorem flatFrac : Flat Tryz.prog (Tryz.prog.fieldsOf 25).toList [.str, .str] 0 := flat_of _ _ _ (by kernel_rfl)
set_option maxRecDepth 100000 in
theorem frac_eq (a b c d : List UInt8) (w : World) : (Op.equalIn 10000 25 (.agg #[.string (bstr a), .string (bstr b)]) (.agg #[.string (bstr c), .string (bstr d)])).run Tryz.prog w = .ok (a == c && b == d) w := by
  rw [agg_eq w 25 _ _ _ (by kernel_rfl) (by kernel_rfl) flatFrac rfl rfl]
  simp [ceqs, ceq, bstr_list]
section
attribute [local semireducible] Sym.AggEq
set_option maxRecDepth 100000 in
theorem fracAgg (a b c d : List UInt8) : AggEq Tryz.prog 25 [.str a, .str b] [.str c, .str d] (a == c && b == d) := ⟨by kernel_rfl, fun _ w => frac_eq a b c d w⟩
theorem fracAggT (a b : List UInt8) : AggEq Tryz.prog 25 [.str a, .str b] [.str a, .str b] true := by
  have := fracAgg a b a b
  simpa using this
end
end Go.Proofs.YtdkhkfdenlabaaaGreatDoor
namespace Go.Proofs.YtdkhkfdenlabaaaGreatDoor
open Go.RowKit
open Sym
attribute [local irreducible] Calls Sym.AggEq ExP.nd ExP.dig ExP.upd
end Go.Proofs.YtdkhkfdenlabaaaGreatDoor
namespace Go.Proofs.YtdkhkfdenlabaaaGreatDoor
open Go.RowKit
open Sym
attribute [local irreducible] Calls Sym.AggEq ExP.nd ExP.dig ExP.upd
theorem ExP.nd_one {b : Nat} (hb : 2 ≤ b) : ExP.nd b 1 = 1 := by
  have h1 := ExP.nd_le (b := b) (x := 1) (n := 1) hb (by rw [Nat.pow_one]; omega)
  have h2 := (ExP.nd_pos (b := b) (x := 1) hb).2 (by omega)
  omega
theorem nv_one {k : IntKind} {b : Nat} (hb : 2 ≤ b) : nv k b 1 = [.int k 1] := by
  unfold nv ExP.dg
  rw [ExP.nd_one hb, ExP.dig_self (by omega)]
  rfl
theorem itoa_any (p : Int) (w : World) (h0 : -9223372036854775808 ≤ p) (h1 : p ≤ 9223372036854775807) (hw : XW w) : Calls Tryz.prog 139 #[.int .i64 p] w fun e w' => e = .returned (.string (bstr (Lib.itoa p))) ∧ Below w.heap.size w w' := by
  refine (Tryz.strconv_Itoa p h0 h1 w hw.tab).mono ?_
  rintro e w' ⟨rfl, k, os, rfl⟩
  exact ⟨rfl, xgrown w k os⟩
set_option maxRecDepth 100000 in
theorem of_any (p : Int) (w : World) (hw : XW w) (h0 : -9223372036854775808 ≤ p) (h1 : p ≤ 9223372036854775807) : Calls Tryz.prog 77 #[.int .i64 p] w fun e w' => e = .returned (frV (Lib.itoa p, [49])) ∧ Below w.heap.size w w' := by
  have HI := fun (w' : World) (h : Below w.heap.size w w') => itoa_any p w' h0 h1 (hw.below h)
  generalize Lib.itoa p = L at *
  refine enter env_ok Tryz.func77 rfl Tryz.results77 Tryz.ntmps77 [] [] [.int .i64 p] (by simp [SV.oks, SV.ok]) (Nat.le_of_ble_eq_true rfl) w _ 1000 ?_
  repeat' (first | ((with_reducible first | show wpS _ _ _ _ | show putD _ _ _ _ | show putW _ _ _ _ | show splitG _ _ _ | show wpQ _ _ _ _ _ _ | show wpD _ _ _ _ _ _ _ | show wpX _ _ _ _ _ _ _ | show expX _ _ _ _ _ _ | show stepX _ _ _ _ | show keepR _ _ _ | show wpY _ _ _ _); conv => whnf) | ((with_reducible show RetN _ _ _); refine retB fun β => ?_) | ((with_reducible show _ ∧ _); first | (apply And.intro; (· intro h; exfalso; first | omega | (revert h; decide)); intro _) | (apply And.intro; rotate_left; (· intro h; exfalso; first | omega | (revert h; decide)); intro _) | (refine ⟨fun _ => ?_, fun _ => ?_⟩) | (apply And.intro; · kernel_rfl) | (apply And.intro; · (show inK _ _; unfold inK; omega)) | (apply And.intro; · (show (_ : Int) ≤ 9223372036854775807; (try simp only [List.length_append, List.length_drop, List.length_take, List.length_cons, List.length_nil]); omega))) | ((with_reducible show AllBe _); refine allBe fun βe => ?_; conv => whnf) | ((with_reducible show bothX _ _); refine bothI ?_ ?_; conv => whnf) | (with_reducible exact trivial) | ((with_reducible show CallN _ _ _ _ _ _ _ _); refine call_of env_ok rfl 1000 ?_) | ((with_reducible show XopN _ _ _ _ _ _); refine xop_of env_ok rfl 1000 ?_) | ((with_reducible show CallX _ _ _ _ _ _); first | (refine callX (.str L) (by kernel_rfl) rfl (trivial) (fun β w hm => HI w hm.below) ?_)) | ((with_reducible show OpX _ _ _ _); first | fail) | ((with_reducible show ∃ _ : SV, _); first | fail) | ((with_reducible show ∃ _, _); first | fail))
  all_goals rfl
end Go.Proofs.YtdkhkfdenlabaaaGreatDoor
namespace Go.Proofs.YtdkhkfdenlabaaaGreatDoor
open Go.RowKit
open Sym
attribute [local irreducible] Calls Sym.AggEq ExP.nd ExP.dig ExP.upd ExP.writeF ExP.writeE
theorem cutD_any (s : List UInt8) (w : World) : Calls Tryz.prog 54 #[.string (bstr s), .string (bstr [46])] w fun e w' => e = .returned (.tuple #[.string (bstr (if s.head? = some 46 then s.tail else s)), .bool (s.head? == some 46)]) ∧ Below w.heap.size w w' := by
  refine (Tryz.strings_CutPrefix (bstr s) (bstr [46]) w).mono ?_
  rintro e w' ⟨h, rfl⟩
  refine ⟨?_, Below.refl _ _⟩
  rw [h, show (bstr s).data.toList = s from rfl, show (bstr [46]).data.toList = [46] from rfl]
  have key : Lib.trimPrefix s [46] = (if s.head? = some 46 then s.tail else s) ∧ Lib.hasPrefix s [46] = (s.head? == some 46) := by
    cases s with
    | nil => exact ⟨rfl, rfl⟩
    | cons c r =>
      by_cases h : c = 46
      · subst h; simp [Lib.trimPrefix, Lib.hasPrefix]
      · have h' : ¬ 46 = c := fun e => h e.symm
        simp [Lib.trimPrefix, Lib.hasPrefix, h, List.isPrefixOf, beq_eq_false_iff_ne.2 h']
  rw [key.1, key.2]; rfl
theorem ExP.nd_ten {b : Nat} (hb : 10 ≤ b) (k : Nat) : ExP.nd b (10 ^ k) ≤ k + 1 :=
  ExP.nd_le (by omega) (Nat.lt_of_lt_of_le (Nat.pow_lt_pow_right (by omega) (Nat.lt_succ_self k)) (Nat.pow_le_pow_left hb _))
theorem ExP.expV_le (s : List UInt8) (h : ExP.expB s = true) : -1000 < ExP.expV s ∧ ExP.expV s < 1000 := by
  cases s with
  | nil => exact ⟨by decide, by decide⟩
  | cons c t =>
    have hB : ExP.expB (c :: t) = ((c == 101 || c == 69) && ExP.expOK (ExP.sgnR t)) := rfl
    rw [hB, Bool.and_eq_true] at h
    have := ExP.val3 h.2
    have hV : ExP.expV (c :: t) = if ExP.sgnP t = true then -(ExP.valS (ExP.sgnR t) : Int) else (ExP.valS (ExP.sgnR t) : Int) := rfl
    rw [hV]
    split <;> omega
set_option maxRecDepth 100000 in
set_option maxHeartbeats 4000000 in
theorem parse_long (s : List UInt8) (w : World) (hw : XW w) (hw0 : 0 < w.heap.size) (hs : s.length ≤ 9223372036854775807) (h : 1000 < s.length) :
    Calls Tryz.prog 111 #[.string (bstr s)] w (WrOut ([], []) 3 w) := by
  refine enter env_ok Tryz.func111 rfl Tryz.results111 Tryz.ntmps111 [] [100018] [.str s] (by simp [SV.oks, SV.ok]) (Nat.le_of_ble_eq_true rfl) w _ 1000 ?_
  repeat' (first | ((with_reducible first | show wpS _ _ _ _ | show putD _ _ _ _ | show putW _ _ _ _ | show splitG _ _ _ | show wpQ _ _ _ _ _ _ | show wpD _ _ _ _ _ _ _ | show wpX _ _ _ _ _ _ _ | show expX _ _ _ _ _ _ | show stepX _ _ _ _ | show keepR _ _ _ | show wpY _ _ _ _); conv => whnf) | ((with_reducible show RetN _ _ _); refine retB fun β => ?_) | ((with_reducible show _ ∧ _); first | (apply And.intro; (· intro h; exfalso; first | omega | (revert h; decide)); intro _) | (apply And.intro; rotate_left; (· intro h; exfalso; first | omega | (revert h; decide)); intro _) | (refine ⟨fun _ => ?_, fun _ => ?_⟩) | (apply And.intro; · kernel_rfl) | (apply And.intro; · (show inK _ _; unfold inK; omega)) | (apply And.intro; · (show (_ : Int) ≤ 9223372036854775807; (try simp only [List.length_append, List.length_drop, List.length_take, List.length_cons, List.length_nil]); omega))) | ((with_reducible show AllBe _); refine allBe fun βe => ?_; conv => whnf) | ((with_reducible show bothX _ _); refine bothI ?_ ?_; conv => whnf) | (with_reducible exact trivial) | ((with_reducible show CallN _ _ _ _ _ _ _ _); refine call_of env_ok rfl 1000 ?_) | ((with_reducible show XopN _ _ _ _ _ _); refine xop_of env_ok rfl 1000 ?_) | ((with_reducible show CallX _ _ _ _ _ _); first | fail) | ((with_reducible show OpX _ _ _ _); first | fail) | ((with_reducible show ∃ _ : SV, _); first | fail) | ((with_reducible show ∃ _, _); first | fail))
  all_goals first | rfl | (exfalso; omega)
set_option maxRecDepth 100000 in
set_option maxHeartbeats 4000000 in
theorem parse_point (s : List UInt8) (w : World) (hw : XW w) (hw0 : 0 < w.heap.size) (hs : s.length ≤ 9223372036854775807) (h : s.length ≤ 1000) (hx : ExP.parX (ExP.runR (ExP.cutM s).1) = true) :
    Calls Tryz.prog 111 #[.string (bstr s)] w (WrOut ([], []) 10 w) := by
  have HC := fun w => cutM_any s w
  have hL := cutM_len s
  have hR := ExP.run_len (ExP.cutM s).1
  have HR := fun w => run_any (ExP.cutM s).1 w (by omega)
  have HD := fun w => cutD_any (ExP.runR (ExP.cutM s).1) w
  simp only [ExP.parX, Bool.and_eq_true, beq_iff_eq, List.isEmpty_iff] at hx
  rw [if_pos hx.1, hx.1] at HD
  have HQ := fun w => run_any (ExP.runR (ExP.cutM s).1).tail w (by have : (ExP.runR (ExP.cutM s).1).tail.length ≤ (ExP.runR (ExP.cutM s).1).length := (by simp); omega)
  rw [hx.2] at HQ
  generalize ExP.runR (ExP.runR (ExP.cutM s).1).tail = r2 at *
  generalize (ExP.runR (ExP.cutM s).1).tail = u at *
  clear hx
  generalize ExP.runR (ExP.cutM s).1 = r1 at *
  generalize ExP.runD (ExP.cutM s).1 = W at *
  generalize (ExP.cutM s).2 = m at *
  generalize (ExP.cutM s).1 = rest at *
  refine enter env_ok Tryz.func111 rfl Tryz.results111 Tryz.ntmps111 [] [100018] [.str s] (by simp [SV.oks, SV.ok]) (Nat.le_of_ble_eq_true rfl) w _ 1000 ?_
  repeat' (first | ((with_reducible first | show wpS _ _ _ _ | show putD _ _ _ _ | show putW _ _ _ _ | show splitG _ _ _ | show wpQ _ _ _ _ _ _ | show wpD _ _ _ _ _ _ _ | show wpX _ _ _ _ _ _ _ | show expX _ _ _ _ _ _ | show stepX _ _ _ _ | show keepR _ _ _ | show wpY _ _ _ _); conv => whnf) | ((with_reducible show RetN _ _ _); refine retB fun β => ?_) | ((with_reducible show _ ∧ _); first | (apply And.intro; (· intro h; exfalso; first | omega | (revert h; decide)); intro _) | (apply And.intro; rotate_left; (· intro h; exfalso; first | omega | (revert h; decide)); intro _) | (refine ⟨fun _ => ?_, fun _ => ?_⟩) | (apply And.intro; · kernel_rfl) | (apply And.intro; · (show inK _ _; unfold inK; omega)) | (apply And.intro; · (show (_ : Int) ≤ 9223372036854775807; (try simp only [List.length_append, List.length_drop, List.length_take, List.length_cons, List.length_nil]); omega))) | ((with_reducible show AllBe _); refine allBe fun βe => ?_; conv => whnf) | ((with_reducible show bothX _ _); refine bothI ?_ ?_; conv => whnf) | (with_reducible exact trivial) | ((with_reducible show CallN _ _ _ _ _ _ _ _); refine call_of env_ok rfl 1000 ?_) | ((with_reducible show XopN _ _ _ _ _ _); refine xop_of env_ok rfl 1000 ?_) | ((with_reducible show CallX _ _ _ _ _ _); first | (refine callX (.tup [.str rest, .bool m]) (by kernel_rfl) rfl (⟨trivial, trivial, trivial⟩) (fun β w hm => HC w) ?_) | (refine callX (.tup [.str W, .str r1]) (by kernel_rfl) rfl (⟨trivial, trivial, trivial⟩) (fun β w hm => HR w) ?_) | (refine callX (.tup [.str u, .lit true]) (by kernel_rfl) rfl (⟨trivial, trivial, trivial⟩) (fun β w hm => HD w) ?_) | (refine callX (.tup [.str [], .str r2]) (by kernel_rfl) rfl (⟨trivial, trivial, trivial⟩) (fun β w hm => HQ w) ?_)) | ((with_reducible show OpX _ _ _ _); first | fail) | ((with_reducible show ∃ _ : SV, _); first | fail) | ((with_reducible show ∃ _, _); first | fail))
  all_goals first | rfl | (exfalso; omega) | (exfalso; simp_all; done)
set_option maxRecDepth 100000 in
set_option maxHeartbeats 4000000 in
theorem parse_bad1 (s : List UInt8) (w : World) (hw : XW w) (hw0 : 0 < w.heap.size) (hs : s.length ≤ 9223372036854775807) (h : s.length ≤ 1000) (hx : ExP.parX (ExP.runR (ExP.cutM s).1) ≠ true) (hp : (ExP.runR (ExP.cutM s).1).head? = some 46) (hb : ExP.decW s = [] ∨ ExP.expB (ExP.decT s) = false) :
    Calls Tryz.prog 111 #[.string (bstr s)] w (WrOut ([], []) 10 w) := by
  have HC := fun w => cutM_any s w
  have hL := cutM_len s
  have hR := ExP.run_len (ExP.cutM s).1
  have HR := fun w => run_any (ExP.cutM s).1 w (by omega)
  have HD := fun w => cutD_any (ExP.runR (ExP.cutM s).1) w
  have hpx : (ExP.runR (ExP.cutM s).1).head? = some 46 := hp
  have eP : ExP.decP s = ExP.runD (ExP.runR (ExP.cutM s).1).tail := by unfold ExP.decP ExP.parD; rw [if_pos hp]
  have eT : ExP.decT s = ExP.runR (ExP.runR (ExP.cutM s).1).tail := by unfold ExP.decT ExP.parR; rw [if_pos hp]
  have hP0 : ExP.runD (ExP.runR (ExP.cutM s).1).tail ≠ [] := by
    intro h0
    unfold ExP.parX at hx
    rw [hp, h0] at hx
    exact absurd hx (by decide)
  rw [if_pos hp, hp, show ((some (46 : UInt8)) == some 46) = true from rfl] at HD
  have ht : (ExP.runR (ExP.cutM s).1).tail.length ≤ (ExP.runR (ExP.cutM s).1).length := by simp
  have hQ := ExP.run_len (ExP.runR (ExP.cutM s).1).tail
  have hPa := ExP.runD_all (ExP.runR (ExP.cutM s).1).tail
  have HQ := fun w => run_any (ExP.runR (ExP.cutM s).1).tail w (by omega)
  have hTl : (ExP.decT s).length ≤ 1000 := by rw [eT]; omega
  have hPl : (ExP.decP s).length ≤ 1000 := by rw [eP]; omega
  have hPW : (ExP.decW s).length + (ExP.decP s).length ≤ 1000 := by rw [eP]; unfold ExP.decW; omega
  rw [← eP] at hP0 hPa HQ
  rw [← eT] at HQ
  have HX := fun w => exponent_any (ExP.decT s) w (by omega)
  have eW : ExP.runD (ExP.cutM s).1 = ExP.decW s := rfl
  rw [eW] at HR hR
  clear hQ ht hpx
  generalize (ExP.runR (ExP.cutM s).1).tail = u at *
  clear hp hx
  generalize ExP.runR (ExP.cutM s).1 = r1 at *
  clear eW eT eP
  generalize (ExP.cutM s).2 = m at *
  generalize (ExP.cutM s).1 = rest at *
  generalize ExP.decW s = W at *
  generalize ExP.decT s = T at *
  generalize ExP.decP s = P at *
  generalize ExP.expV T = v at *
  generalize ExP.expB T = ok at *
  refine enter env_ok Tryz.func111 rfl Tryz.results111 Tryz.ntmps111 [] [100018] [.str s] (by simp [SV.oks, SV.ok]) (Nat.le_of_ble_eq_true rfl) w _ 1000 ?_
  by_cases hW : W = []
  · subst hW
    repeat' (first | ((with_reducible first | show wpS _ _ _ _ | show putD _ _ _ _ | show putW _ _ _ _ | show splitG _ _ _ | show wpQ _ _ _ _ _ _ | show wpD _ _ _ _ _ _ _ | show wpX _ _ _ _ _ _ _ | show expX _ _ _ _ _ _ | show stepX _ _ _ _ | show keepR _ _ _ | show wpY _ _ _ _); conv => whnf) | ((with_reducible show RetN _ _ _); refine retB fun β => ?_) | ((with_reducible show _ ∧ _); first | (apply And.intro; (· intro h; exfalso; first | omega | (revert h; decide)); intro _) | (apply And.intro; rotate_left; (· intro h; exfalso; first | omega | (revert h; decide)); intro _) | (refine ⟨fun _ => ?_, fun _ => ?_⟩) | (apply And.intro; · kernel_rfl) | (apply And.intro; · (show inK _ _; unfold inK; omega)) | (apply And.intro; · (show (_ : Int) ≤ 9223372036854775807; (try simp only [List.length_append, List.length_drop, List.length_take, List.length_cons, List.length_nil]); omega))) | ((with_reducible show AllBe _); refine allBe fun βe => ?_; conv => whnf) | ((with_reducible show bothX _ _); refine bothI ?_ ?_; conv => whnf) | (with_reducible exact trivial) | ((with_reducible show CallN _ _ _ _ _ _ _ _); refine call_of env_ok rfl 1000 ?_) | ((with_reducible show XopN _ _ _ _ _ _); refine xop_of env_ok rfl 1000 ?_) | ((with_reducible show CallX _ _ _ _ _ _); first | (refine callX (.tup [.str rest, .bool m]) (by kernel_rfl) rfl (⟨trivial, trivial, trivial⟩) (fun β w hm => HC w) ?_) | (refine callX (.tup [.str [], .str r1]) (by kernel_rfl) rfl (⟨trivial, trivial, trivial⟩) (fun β w hm => HR w) ?_) | (refine callX (.tup [.str u, .lit true]) (by kernel_rfl) rfl (⟨trivial, trivial, trivial⟩) (fun β w hm => HD w) ?_) | (refine callX (.tup [.str P, .str T]) (by kernel_rfl) rfl (⟨trivial, trivial, trivial⟩) (fun β w hm => HQ w) ?_) | (refine callX (.tup [.int .i64 (if ok = true then v else 0), .bool ok]) (by kernel_rfl) rfl (⟨trivial, trivial, trivial⟩) (fun β w hm => HX w) ?_)) | ((with_reducible show OpX _ _ _ _); first | fail) | ((with_reducible show ∃ _ : SV, _); first | fail) | ((with_reducible show ∃ _, _); first | fail))
    all_goals first | rfl | (exfalso; omega) | (exfalso; simp_all; done)
  · have hok : ok = false := hb.resolve_left hW
    subst hok
    repeat' (first | ((with_reducible first | show wpS _ _ _ _ | show putD _ _ _ _ | show putW _ _ _ _ | show splitG _ _ _ | show wpQ _ _ _ _ _ _ | show wpD _ _ _ _ _ _ _ | show wpX _ _ _ _ _ _ _ | show expX _ _ _ _ _ _ | show stepX _ _ _ _ | show keepR _ _ _ | show wpY _ _ _ _); conv => whnf) | ((with_reducible show RetN _ _ _); refine retB fun β => ?_) | ((with_reducible show _ ∧ _); first | (apply And.intro; (· intro h; exfalso; first | omega | (revert h; decide)); intro _) | (apply And.intro; rotate_left; (· intro h; exfalso; first | omega | (revert h; decide)); intro _) | (refine ⟨fun _ => ?_, fun _ => ?_⟩) | (apply And.intro; · kernel_rfl) | (apply And.intro; · (show inK _ _; unfold inK; omega)) | (apply And.intro; · (show (_ : Int) ≤ 9223372036854775807; (try simp only [List.length_append, List.length_drop, List.length_take, List.length_cons, List.length_nil]); omega))) | ((with_reducible show AllBe _); refine allBe fun βe => ?_; conv => whnf) | ((with_reducible show bothX _ _); refine bothI ?_ ?_; conv => whnf) | (with_reducible exact trivial) | ((with_reducible show CallN _ _ _ _ _ _ _ _); refine call_of env_ok rfl 1000 ?_) | ((with_reducible show XopN _ _ _ _ _ _); refine xop_of env_ok rfl 1000 ?_) | ((with_reducible show CallX _ _ _ _ _ _); first | (refine callX (.tup [.str rest, .bool m]) (by kernel_rfl) rfl (⟨trivial, trivial, trivial⟩) (fun β w hm => HC w) ?_) | (refine callX (.tup [.str W, .str r1]) (by kernel_rfl) rfl (⟨trivial, trivial, trivial⟩) (fun β w hm => HR w) ?_) | (refine callX (.tup [.str u, .lit true]) (by kernel_rfl) rfl (⟨trivial, trivial, trivial⟩) (fun β w hm => HD w) ?_) | (refine callX (.tup [.str P, .str T]) (by kernel_rfl) rfl (⟨trivial, trivial, trivial⟩) (fun β w hm => HQ w) ?_) | (refine callX (.tup [.int .i64 (if false = true then v else 0), .bool false]) (by kernel_rfl) rfl (⟨trivial, trivial, trivial⟩) (fun β w hm => HX w) ?_)) | ((with_reducible show OpX _ _ _ _); first | fail) | ((with_reducible show ∃ _ : SV, _); first | fail) | ((with_reducible show ∃ _, _); first | fail))
    all_goals first | rfl | (exfalso; omega) | (exfalso; simp_all; done)
set_option maxRecDepth 100000 in
set_option maxHeartbeats 4000000 in
theorem parse_good1 (s : List UInt8) (w : World) (hw : XW w) (hw0 : 0 < w.heap.size) (hs : s.length ≤ 9223372036854775807) (h : s.length ≤ 1000) (hx : ExP.parX (ExP.runR (ExP.cutM s).1) ≠ true) (hp : (ExP.runR (ExP.cutM s).1).head? = some 46) (hW : ExP.decW s ≠ []) (hB : ExP.expB (ExP.decT s) = true) :
    Calls Tryz.prog 111 #[.string (bstr s)] w (WrOut (ExP.writeF (ExP.decN s)) (ExP.writeE (ExP.decN s)) w) := by
  have HC := fun w => cutM_any s w
  have hL := cutM_len s
  have hR := ExP.run_len (ExP.cutM s).1
  have HR := fun w => run_any (ExP.cutM s).1 w (by omega)
  have HD := fun w => cutD_any (ExP.runR (ExP.cutM s).1) w
  have hpx : (ExP.runR (ExP.cutM s).1).head? = some 46 := hp
  have eP : ExP.decP s = ExP.runD (ExP.runR (ExP.cutM s).1).tail := by unfold ExP.decP ExP.parD; rw [if_pos hp]
  have eT : ExP.decT s = ExP.runR (ExP.runR (ExP.cutM s).1).tail := by unfold ExP.decT ExP.parR; rw [if_pos hp]
  have hP0 : ExP.runD (ExP.runR (ExP.cutM s).1).tail ≠ [] := by
    intro h0
    unfold ExP.parX at hx
    rw [hp, h0] at hx
    exact absurd hx (by decide)
  rw [if_pos hp, hp, show ((some (46 : UInt8)) == some 46) = true from rfl] at HD
  have ht : (ExP.runR (ExP.cutM s).1).tail.length ≤ (ExP.runR (ExP.cutM s).1).length := by simp
  have hQ := ExP.run_len (ExP.runR (ExP.cutM s).1).tail
  have hPa := ExP.runD_all (ExP.runR (ExP.cutM s).1).tail
  have HQ := fun w => run_any (ExP.runR (ExP.cutM s).1).tail w (by omega)
  have hTl : (ExP.decT s).length ≤ 1000 := by rw [eT]; omega
  have hPl : (ExP.decP s).length ≤ 1000 := by rw [eP]; omega
  have hPW : (ExP.decW s).length + (ExP.decP s).length ≤ 1000 := by rw [eP]; unfold ExP.decW; omega
  rw [← eP] at hP0 hPa HQ
  rw [← eT] at HQ
  have HX := fun w => exponent_any (ExP.decT s) w (by omega)
  have hv := ExP.expV_le _ hB
  simp only [hB, if_true] at HX
  have hWa : (ExP.decW s).all ExP.digC = true := ExP.runD_all _
  have ha : (ExP.decW s ++ ExP.decP s).all ExP.digC = true := by rw [List.all_append, hWa, hPa]; rfl
  have HP := fun w => parse_any (ExP.decW s ++ ExP.decP s) w (by rw [List.length_append]; omega) ha
  have hn := ExP.nd_val (b := 1000000000) (by omega) ha
  rw [List.length_append] at hn
  have hN : ExP.decN s = ExP.scaleN ⟨(ExP.cutM s).2, ExP.valS (ExP.decW s ++ ExP.decP s), 1⟩ (ExP.expV (ExP.decT s) - ((ExP.decP s).length : Int)) := rfl
  obtain ⟨i0, hi, hz0, hz1, hz2⟩ := info_parts u32Info
  have hu := Tryz.underlying137
  have hsz := fun w => Tryz.sizeOf161 w
  have hzv := fun w => Tryz.zeroValue161 w
  have hn1 : ExP.nd 1000000000 1 = 1 := ExP.nd_one (by omega)
  have hv1 : nv .u32 1000000000 1 = [.int .u32 1] := nv_one (by omega)
  have W1 := fun (x : FrV) (w' : World) (h : Below w.heap.size w w') => write_any x w' (hw.below h) (Nat.lt_of_lt_of_le hw0 h.size)
  have eW : ExP.runD (ExP.cutM s).1 = ExP.decW s := rfl
  rw [eW] at HR hR
  clear hQ ht hpx
  generalize (ExP.runR (ExP.cutM s).1).tail = u at *
  clear hp hx
  generalize ExP.runR (ExP.cutM s).1 = r1 at *
  clear eW eT eP
  generalize (ExP.cutM s).2 = m at *
  generalize (ExP.cutM s).1 = rest at *
  generalize ExP.decW s = W at *
  generalize ExP.decT s = T at *
  generalize ExP.decP s = P at *
  generalize ExP.expV T = v at *
  generalize ExP.valS (W ++ P) = V at *
  generalize ExP.decN s = N at *
  obtain ⟨k, hk⟩ : ∃ k, k = (v - ((P).length : Int)).natAbs := ⟨_, rfl⟩
  have hk2 : k ≤ 2000 := by (try simp only [List.length_nil] at hk); omega
  have HT := fun (w' : World) (h : Below w.heap.size w w') => ten_any k w' (Nat.lt_of_lt_of_le hw0 h.size) (by omega)
  have hnt := ExP.nd_ten (b := 1000000000) (by omega) k
  have hnm := ExP.nd_mul (b := 1000000000) (x := V) (y := 10 ^ k) (by omega)
  have hkp : 0 < 10 ^ k := Nat.pow_pos (by omega)
  by_cases hneg : v - ((P).length : Int) < 0
  · have hN2 : N = ⟨m, V, 10 ^ k⟩ := by
      rw [hN, ExP.scaleN, if_pos hneg, ← hk]
      simp
    rw [hN2]
    have hkk : 0 - (v - ((P).length : Int)) = (k : Int) := by omega
    clear hN hN2
    refine enter env_ok Tryz.func111 rfl Tryz.results111 Tryz.ntmps111 [] [100018] [.str s] (by simp [SV.oks, SV.ok]) (Nat.le_of_ble_eq_true rfl) w _ 1000 ?_
    repeat' (first | ((with_reducible first | show wpS _ _ _ _ | show putD _ _ _ _ | show putW _ _ _ _ | show splitG _ _ _ | show wpQ _ _ _ _ _ _ | show wpD _ _ _ _ _ _ _ | show wpX _ _ _ _ _ _ _ | show expX _ _ _ _ _ _ | show stepX _ _ _ _ | show keepR _ _ _ | show wpY _ _ _ _); conv => whnf) | ((with_reducible show RetN _ _ _); refine retB fun β => ?_) | ((with_reducible show _ ∧ _); first | (apply And.intro; (· intro h; exfalso; first | omega | (revert h; decide)); intro _) | (apply And.intro; rotate_left; (· intro h; exfalso; first | omega | (revert h; decide)); intro _) | (refine ⟨fun _ => ?_, fun _ => ?_⟩) | (apply And.intro; · kernel_rfl) | (apply And.intro; · (show inK _ _; unfold inK; omega)) | (apply And.intro; · (show (_ : Int) ≤ 9223372036854775807; (try simp only [List.length_append, List.length_drop, List.length_take, List.length_cons, List.length_nil]); omega))) | ((with_reducible show AllBe _); refine allBe fun βe => ?_; conv => whnf) | ((with_reducible show bothX _ _); refine bothI ?_ ?_; conv => whnf) | (with_reducible exact trivial) | ((with_reducible show CallN _ _ _ _ _ _ _ _); refine call_of env_ok rfl 1000 ?_) | ((with_reducible show XopN _ _ _ _ _ _); refine xop_of env_ok rfl 1000 ?_) | ((with_reducible show CallX _ _ _ _ _ _); first | (refine callX (.tup [.str rest, .bool m]) (by kernel_rfl) rfl (⟨trivial, trivial, trivial⟩) (fun β w hm => HC w) ?_) | (refine callX (.tup [.str W, .str r1]) (by kernel_rfl) rfl (⟨trivial, trivial, trivial⟩) (fun β w hm => HR w) ?_) | (refine callX (.tup [.str u, .lit true]) (by kernel_rfl) rfl (⟨trivial, trivial, trivial⟩) (fun β w hm => HD w) ?_) | (refine callX (.tup [.str P, .str T]) (by kernel_rfl) rfl (⟨trivial, trivial, trivial⟩) (fun β w hm => HQ w) ?_) | (refine callX (.tup [.int .i64 v, .bool true]) (by kernel_rfl) rfl (⟨trivial, trivial, trivial⟩) (fun β w hm => HX w) ?_) | (refine callNat .u32 1000000000 V hw0 (by kernel_rfl) rfl (fun β w' hm => HP w') (fun a1 c1 q1 q2 q3 => ?_)) | (refine callNat .u32 1000000000 (10 ^ k) hw0 (by kernel_rfl) rfl (fun β w' hm => by simp only [SV.dens, SV.den]; rw [hkk]; exact HT w' hm.below) (fun a2 c2 q4 q5 q6 => ?_)) | (refine callX (.tup [.agg [.str (ExP.writeF ⟨m, V, 10 ^ k⟩).1, .str (ExP.writeF ⟨m, V, 10 ^ k⟩).2], .int .i64 (ExP.writeE ⟨m, V, 10 ^ k⟩)]) (by kernel_rfl) rfl (⟨⟨trivial, trivial, trivial⟩, trivial, trivial⟩) (fun β w hm => W1 ⟨m, V, 10 ^ k, a1, c1, a2, c2⟩ w hm.below (FrIn.of (by first | exact hm.slF 1 rfl | exact hm.slF 2 rfl | exact hm.slF 3 rfl | exact hm.slF 4 rfl | exact hm.slF 5 rfl) (by first | exact hm.slF 1 rfl | exact hm.slF 2 rfl | exact hm.slF 3 rfl | exact hm.slF 4 rfl | exact hm.slF 5 rfl) ⟨q1, q4, q2, q5⟩) hkp (by dsimp only; omega) (by dsimp only; omega)) ?_)) | ((with_reducible show OpX _ _ _ _); first | (refine opx_build1 (sz := 1) rfl rfl rfl (xs := [.int .u32 1]) (fun β => rfl) rfl (by omega) (by omega) hu hsz hzv (fun g1 => ?_))) | ((with_reducible show ∃ _ : SV, _); first | fail) | ((with_reducible show ∃ _, _); first | fail))
    all_goals first | rfl | (exfalso; omega) | (exfalso; simp_all; done)
  · have hN2 : N = ⟨m, V * 10 ^ k, 1⟩ := by
      rw [hN, ExP.scaleN, if_neg hneg, ← hk]
    rw [hN2]
    have hkk : v - ((P).length : Int) = (k : Int) := by omega
    clear hN hN2
    refine enter env_ok Tryz.func111 rfl Tryz.results111 Tryz.ntmps111 [] [100018] [.str s] (by simp [SV.oks, SV.ok]) (Nat.le_of_ble_eq_true rfl) w _ 1000 ?_
    repeat' (first | ((with_reducible first | show wpS _ _ _ _ | show putD _ _ _ _ | show putW _ _ _ _ | show splitG _ _ _ | show wpQ _ _ _ _ _ _ | show wpD _ _ _ _ _ _ _ | show wpX _ _ _ _ _ _ _ | show expX _ _ _ _ _ _ | show stepX _ _ _ _ | show keepR _ _ _ | show wpY _ _ _ _); conv => whnf) | ((with_reducible show RetN _ _ _); refine retB fun β => ?_) | ((with_reducible show _ ∧ _); first | (apply And.intro; (· intro h; exfalso; first | omega | (revert h; decide)); intro _) | (apply And.intro; rotate_left; (· intro h; exfalso; first | omega | (revert h; decide)); intro _) | (refine ⟨fun _ => ?_, fun _ => ?_⟩) | (apply And.intro; · kernel_rfl) | (apply And.intro; · (show inK _ _; unfold inK; omega)) | (apply And.intro; · (show (_ : Int) ≤ 9223372036854775807; (try simp only [List.length_append, List.length_drop, List.length_take, List.length_cons, List.length_nil]); omega))) | ((with_reducible show AllBe _); refine allBe fun βe => ?_; conv => whnf) | ((with_reducible show bothX _ _); refine bothI ?_ ?_; conv => whnf) | (with_reducible exact trivial) | ((with_reducible show CallN _ _ _ _ _ _ _ _); refine call_of env_ok rfl 1000 ?_) | ((with_reducible show XopN _ _ _ _ _ _); refine xop_of env_ok rfl 1000 ?_) | ((with_reducible show CallX _ _ _ _ _ _); first | (refine callX (.tup [.str rest, .bool m]) (by kernel_rfl) rfl (⟨trivial, trivial, trivial⟩) (fun β w hm => HC w) ?_) | (refine callX (.tup [.str W, .str r1]) (by kernel_rfl) rfl (⟨trivial, trivial, trivial⟩) (fun β w hm => HR w) ?_) | (refine callX (.tup [.str u, .lit true]) (by kernel_rfl) rfl (⟨trivial, trivial, trivial⟩) (fun β w hm => HD w) ?_) | (refine callX (.tup [.str P, .str T]) (by kernel_rfl) rfl (⟨trivial, trivial, trivial⟩) (fun β w hm => HQ w) ?_) | (refine callX (.tup [.int .i64 v, .bool true]) (by kernel_rfl) rfl (⟨trivial, trivial, trivial⟩) (fun β w hm => HX w) ?_) | (refine callNat .u32 1000000000 V hw0 (by kernel_rfl) rfl (fun β w' hm => HP w') (fun a1 c1 q1 q2 q3 => ?_)) | (refine callNat .u32 1000000000 (10 ^ k) hw0 (by kernel_rfl) rfl (fun β w' hm => by simp only [SV.dens, SV.den]; rw [hkk]; exact HT w' hm.below) (fun a2 c2 q4 q5 q6 => ?_)) | (refine callNat .u32 1000000000 (V * 10 ^ k) hw0 (by kernel_rfl) rfl (fun β w' hm => times_any a1 a2 c1 c2 V (10 ^ k) w' (by omega) (by omega) (by first | exact hm.slF 1 rfl | exact hm.slF 2 rfl | exact hm.slF 3 rfl | exact hm.slF 4 rfl | exact hm.slF 5 rfl) (by first | exact hm.slF 1 rfl | exact hm.slF 2 rfl | exact hm.slF 3 rfl | exact hm.slF 4 rfl | exact hm.slF 5 rfl)) (fun a3 c3 q7 q8 q9 => ?_)) | (refine callX (.tup [.agg [.str (ExP.writeF ⟨m, V * 10 ^ k, 1⟩).1, .str (ExP.writeF ⟨m, V * 10 ^ k, 1⟩).2], .int .i64 (ExP.writeE ⟨m, V * 10 ^ k, 1⟩)]) (by kernel_rfl) rfl (⟨⟨trivial, trivial, trivial⟩, trivial, trivial⟩) (fun β w hm => by have W2 := W1 ⟨m, V * 10 ^ k, 1, a3, c3, some ⟨g1, 0, none⟩, 1⟩ w hm.below (FrIn.of (by first | exact hm.slF 1 rfl | exact hm.slF 2 rfl | exact hm.slF 3 rfl | exact hm.slF 4 rfl | exact hm.slF 5 rfl) (by rw [hv1]; first | exact (hm.own 1 rfl).1 | exact (hm.own 2 rfl).1 | exact (hm.own 3 rfl).1) ⟨q7, (fun h => by cases h), q8, by dsimp only; omega⟩) (by dsimp only; omega) (by dsimp only; omega) (by dsimp only; omega); simp only [FrV.val, hn1] at W2; exact W2) ?_)) | ((with_reducible show OpX _ _ _ _); first | (refine opx_build1 (sz := 1) rfl rfl rfl (xs := [.int .u32 1]) (fun β => rfl) rfl (by omega) (by omega) hu hsz hzv (fun g1 => ?_))) | ((with_reducible show ∃ _ : SV, _); first | fail) | ((with_reducible show ∃ _, _); first | fail))
    all_goals first | rfl | (exfalso; omega) | (exfalso; simp_all; done)
set_option maxRecDepth 100000 in
set_option maxHeartbeats 4000000 in
theorem parse_bad0 (s : List UInt8) (w : World) (hw : XW w) (hw0 : 0 < w.heap.size) (hs : s.length ≤ 9223372036854775807) (h : s.length ≤ 1000) (hx : ExP.parX (ExP.runR (ExP.cutM s).1) ≠ true) (hp : (ExP.runR (ExP.cutM s).1).head? ≠ some 46) (hb : ExP.decW s = [] ∨ ExP.expB (ExP.decT s) = false) :
    Calls Tryz.prog 111 #[.string (bstr s)] w (WrOut ([], []) 10 w) := by
  have HC := fun w => cutM_any s w
  have hL := cutM_len s
  have hR := ExP.run_len (ExP.cutM s).1
  have HR := fun w => run_any (ExP.cutM s).1 w (by omega)
  have HD := fun w => cutD_any (ExP.runR (ExP.cutM s).1) w
  have hpx : (ExP.runR (ExP.cutM s).1).head? ≠ some 46 := hp
  have eP : ExP.decP s = [] := by unfold ExP.decP ExP.parD; rw [if_neg hp]
  have eT : ExP.decT s = ExP.runR (ExP.cutM s).1 := by unfold ExP.decT ExP.parR; rw [if_neg hp]
  rw [if_neg hp, beq_eq_false_iff_ne.2 hp] at HD
  have hTl : (ExP.decT s).length ≤ 1000 := by rw [eT]; omega
  have hPa : (ExP.decP s).all ExP.digC = true := by rw [eP]; rfl
  have hPl : (ExP.decP s).length ≤ 1000 := by rw [eP]; simp
  have hPW : (ExP.decW s).length + (ExP.decP s).length ≤ 1000 := by rw [eP]; unfold ExP.decW; simp; omega
  rw [← eT] at HD HR
  have HX := fun w => exponent_any (ExP.decT s) w (by omega)
  have eW : ExP.runD (ExP.cutM s).1 = ExP.decW s := rfl
  rw [eW] at HR hR
  clear hpx hp hx hR
  clear eW eT eP
  generalize (ExP.cutM s).2 = m at *
  generalize (ExP.cutM s).1 = rest at *
  generalize ExP.decW s = W at *
  generalize ExP.decT s = T at *
  generalize ExP.expV T = v at *
  generalize ExP.expB T = ok at *
  refine enter env_ok Tryz.func111 rfl Tryz.results111 Tryz.ntmps111 [] [100018] [.str s] (by simp [SV.oks, SV.ok]) (Nat.le_of_ble_eq_true rfl) w _ 1000 ?_
  by_cases hW : W = []
  · subst hW
    repeat' (first | ((with_reducible first | show wpS _ _ _ _ | show putD _ _ _ _ | show putW _ _ _ _ | show splitG _ _ _ | show wpQ _ _ _ _ _ _ | show wpD _ _ _ _ _ _ _ | show wpX _ _ _ _ _ _ _ | show expX _ _ _ _ _ _ | show stepX _ _ _ _ | show keepR _ _ _ | show wpY _ _ _ _); conv => whnf) | ((with_reducible show RetN _ _ _); refine retB fun β => ?_) | ((with_reducible show _ ∧ _); first | (apply And.intro; (· intro h; exfalso; first | omega | (revert h; decide)); intro _) | (apply And.intro; rotate_left; (· intro h; exfalso; first | omega | (revert h; decide)); intro _) | (refine ⟨fun _ => ?_, fun _ => ?_⟩) | (apply And.intro; · kernel_rfl) | (apply And.intro; · (show inK _ _; unfold inK; omega)) | (apply And.intro; · (show (_ : Int) ≤ 9223372036854775807; (try simp only [List.length_append, List.length_drop, List.length_take, List.length_cons, List.length_nil]); omega))) | ((with_reducible show AllBe _); refine allBe fun βe => ?_; conv => whnf) | ((with_reducible show bothX _ _); refine bothI ?_ ?_; conv => whnf) | (with_reducible exact trivial) | ((with_reducible show CallN _ _ _ _ _ _ _ _); refine call_of env_ok rfl 1000 ?_) | ((with_reducible show XopN _ _ _ _ _ _); refine xop_of env_ok rfl 1000 ?_) | ((with_reducible show CallX _ _ _ _ _ _); first | (refine callX (.tup [.str rest, .bool m]) (by kernel_rfl) rfl (⟨trivial, trivial, trivial⟩) (fun β w hm => HC w) ?_) | (refine callX (.tup [.str [], .str T]) (by kernel_rfl) rfl (⟨trivial, trivial, trivial⟩) (fun β w hm => HR w) ?_) | (refine callX (.tup [.str T, .lit false]) (by kernel_rfl) rfl (⟨trivial, trivial, trivial⟩) (fun β w hm => HD w) ?_) | (refine callX (.tup [.int .i64 (if ok = true then v else 0), .bool ok]) (by kernel_rfl) rfl (⟨trivial, trivial, trivial⟩) (fun β w hm => HX w) ?_)) | ((with_reducible show OpX _ _ _ _); first | fail) | ((with_reducible show ∃ _ : SV, _); first | fail) | ((with_reducible show ∃ _, _); first | fail))
    all_goals first | rfl | (exfalso; omega) | (exfalso; simp_all; done)
  · have hok : ok = false := hb.resolve_left hW
    subst hok
    repeat' (first | ((with_reducible first | show wpS _ _ _ _ | show putD _ _ _ _ | show putW _ _ _ _ | show splitG _ _ _ | show wpQ _ _ _ _ _ _ | show wpD _ _ _ _ _ _ _ | show wpX _ _ _ _ _ _ _ | show expX _ _ _ _ _ _ | show stepX _ _ _ _ | show keepR _ _ _ | show wpY _ _ _ _); conv => whnf) | ((with_reducible show RetN _ _ _); refine retB fun β => ?_) | ((with_reducible show _ ∧ _); first | (apply And.intro; (· intro h; exfalso; first | omega | (revert h; decide)); intro _) | (apply And.intro; rotate_left; (· intro h; exfalso; first | omega | (revert h; decide)); intro _) | (refine ⟨fun _ => ?_, fun _ => ?_⟩) | (apply And.intro; · kernel_rfl) | (apply And.intro; · (show inK _ _; unfold inK; omega)) | (apply And.intro; · (show (_ : Int) ≤ 9223372036854775807; (try simp only [List.length_append, List.length_drop, List.length_take, List.length_cons, List.length_nil]); omega))) | ((with_reducible show AllBe _); refine allBe fun βe => ?_; conv => whnf) | ((with_reducible show bothX _ _); refine bothI ?_ ?_; conv => whnf) | (with_reducible exact trivial) | ((with_reducible show CallN _ _ _ _ _ _ _ _); refine call_of env_ok rfl 1000 ?_) | ((with_reducible show XopN _ _ _ _ _ _); refine xop_of env_ok rfl 1000 ?_) | ((with_reducible show CallX _ _ _ _ _ _); first | (refine callX (.tup [.str rest, .bool m]) (by kernel_rfl) rfl (⟨trivial, trivial, trivial⟩) (fun β w hm => HC w) ?_) | (refine callX (.tup [.str W, .str T]) (by kernel_rfl) rfl (⟨trivial, trivial, trivial⟩) (fun β w hm => HR w) ?_) | (refine callX (.tup [.str T, .lit false]) (by kernel_rfl) rfl (⟨trivial, trivial, trivial⟩) (fun β w hm => HD w) ?_) | (refine callX (.tup [.int .i64 (if false = true then v else 0), .bool false]) (by kernel_rfl) rfl (⟨trivial, trivial, trivial⟩) (fun β w hm => HX w) ?_)) | ((with_reducible show OpX _ _ _ _); first | fail) | ((with_reducible show ∃ _ : SV, _); first | fail) | ((with_reducible show ∃ _, _); first | fail))
    all_goals first | rfl | (exfalso; omega) | (exfalso; simp_all; done)
set_option maxRecDepth 100000 in
set_option maxHeartbeats 4000000 in
theorem parse_good0 (s : List UInt8) (w : World) (hw : XW w) (hw0 : 0 < w.heap.size) (hs : s.length ≤ 9223372036854775807) (h : s.length ≤ 1000) (hx : ExP.parX (ExP.runR (ExP.cutM s).1) ≠ true) (hp : (ExP.runR (ExP.cutM s).1).head? ≠ some 46) (hW : ExP.decW s ≠ []) (hB : ExP.expB (ExP.decT s) = true) :
    Calls Tryz.prog 111 #[.string (bstr s)] w (WrOut (ExP.writeF (ExP.decN s)) (ExP.writeE (ExP.decN s)) w) := by
  have HC := fun w => cutM_any s w
  have hL := cutM_len s
  have hR := ExP.run_len (ExP.cutM s).1
  have HR := fun w => run_any (ExP.cutM s).1 w (by omega)
  have HD := fun w => cutD_any (ExP.runR (ExP.cutM s).1) w
  have hpx : (ExP.runR (ExP.cutM s).1).head? ≠ some 46 := hp
  have eP : ExP.decP s = [] := by unfold ExP.decP ExP.parD; rw [if_neg hp]
  have eT : ExP.decT s = ExP.runR (ExP.cutM s).1 := by unfold ExP.decT ExP.parR; rw [if_neg hp]
  rw [if_neg hp, beq_eq_false_iff_ne.2 hp] at HD
  have hTl : (ExP.decT s).length ≤ 1000 := by rw [eT]; omega
  have hPa : (ExP.decP s).all ExP.digC = true := by rw [eP]; rfl
  have hPl : (ExP.decP s).length ≤ 1000 := by rw [eP]; simp
  have hPW : (ExP.decW s).length + (ExP.decP s).length ≤ 1000 := by rw [eP]; unfold ExP.decW; simp; omega
  rw [← eT] at HD HR
  have HX := fun w => exponent_any (ExP.decT s) w (by omega)
  have hv := ExP.expV_le _ hB
  simp only [hB, if_true] at HX
  have hWa : (ExP.decW s).all ExP.digC = true := ExP.runD_all _
  have ha : (ExP.decW s ++ ExP.decP s).all ExP.digC = true := by rw [List.all_append, hWa, hPa]; rfl
  have HP := fun w => parse_any (ExP.decW s ++ ExP.decP s) w (by rw [List.length_append]; omega) ha
  have hn := ExP.nd_val (b := 1000000000) (by omega) ha
  rw [List.length_append] at hn
  have hN : ExP.decN s = ExP.scaleN ⟨(ExP.cutM s).2, ExP.valS (ExP.decW s ++ ExP.decP s), 1⟩ (ExP.expV (ExP.decT s) - ((ExP.decP s).length : Int)) := rfl
  obtain ⟨i0, hi, hz0, hz1, hz2⟩ := info_parts u32Info
  have hu := Tryz.underlying137
  have hsz := fun w => Tryz.sizeOf161 w
  have hzv := fun w => Tryz.zeroValue161 w
  have hn1 : ExP.nd 1000000000 1 = 1 := ExP.nd_one (by omega)
  have hv1 : nv .u32 1000000000 1 = [.int .u32 1] := nv_one (by omega)
  have W1 := fun (x : FrV) (w' : World) (h : Below w.heap.size w w') => write_any x w' (hw.below h) (Nat.lt_of_lt_of_le hw0 h.size)
  have eW : ExP.runD (ExP.cutM s).1 = ExP.decW s := rfl
  rw [eW] at HR hR
  clear hpx hp hx hR
  rw [eP] at HP hn hN hPW hPl ha
  clear eW eT eP
  generalize (ExP.cutM s).2 = m at *
  generalize (ExP.cutM s).1 = rest at *
  generalize ExP.decW s = W at *
  generalize ExP.decT s = T at *
  generalize ExP.expV T = v at *
  generalize ExP.valS (W ++ ([] : List UInt8)) = V at *
  generalize ExP.decN s = N at *
  obtain ⟨k, hk⟩ : ∃ k, k = (v - ((([] : List UInt8)).length : Int)).natAbs := ⟨_, rfl⟩
  have hk2 : k ≤ 2000 := by (try simp only [List.length_nil] at hk); omega
  have HT := fun (w' : World) (h : Below w.heap.size w w') => ten_any k w' (Nat.lt_of_lt_of_le hw0 h.size) (by omega)
  have hnt := ExP.nd_ten (b := 1000000000) (by omega) k
  have hnm := ExP.nd_mul (b := 1000000000) (x := V) (y := 10 ^ k) (by omega)
  have hkp : 0 < 10 ^ k := Nat.pow_pos (by omega)
  by_cases hneg : v - ((([] : List UInt8)).length : Int) < 0
  · have hN2 : N = ⟨m, V, 10 ^ k⟩ := by
      rw [hN, ExP.scaleN, if_pos hneg, ← hk]
      simp
    rw [hN2]
    have hkk : 0 - (v - ((([] : List UInt8)).length : Int)) = (k : Int) := by omega
    clear hN hN2
    refine enter env_ok Tryz.func111 rfl Tryz.results111 Tryz.ntmps111 [] [100018] [.str s] (by simp [SV.oks, SV.ok]) (Nat.le_of_ble_eq_true rfl) w _ 1000 ?_
    repeat' (first | ((with_reducible first | show wpS _ _ _ _ | show putD _ _ _ _ | show putW _ _ _ _ | show splitG _ _ _ | show wpQ _ _ _ _ _ _ | show wpD _ _ _ _ _ _ _ | show wpX _ _ _ _ _ _ _ | show expX _ _ _ _ _ _ | show stepX _ _ _ _ | show keepR _ _ _ | show wpY _ _ _ _); conv => whnf) | ((with_reducible show RetN _ _ _); refine retB fun β => ?_) | ((with_reducible show _ ∧ _); first | (apply And.intro; (· intro h; exfalso; first | omega | (revert h; decide)); intro _) | (apply And.intro; rotate_left; (· intro h; exfalso; first | omega | (revert h; decide)); intro _) | (refine ⟨fun _ => ?_, fun _ => ?_⟩) | (apply And.intro; · kernel_rfl) | (apply And.intro; · (show inK _ _; unfold inK; omega)) | (apply And.intro; · (show (_ : Int) ≤ 9223372036854775807; (try simp only [List.length_append, List.length_drop, List.length_take, List.length_cons, List.length_nil]); omega))) | ((with_reducible show AllBe _); refine allBe fun βe => ?_; conv => whnf) | ((with_reducible show bothX _ _); refine bothI ?_ ?_; conv => whnf) | (with_reducible exact trivial) | ((with_reducible show CallN _ _ _ _ _ _ _ _); refine call_of env_ok rfl 1000 ?_) | ((with_reducible show XopN _ _ _ _ _ _); refine xop_of env_ok rfl 1000 ?_) | ((with_reducible show CallX _ _ _ _ _ _); first | (refine callX (.tup [.str rest, .bool m]) (by kernel_rfl) rfl (⟨trivial, trivial, trivial⟩) (fun β w hm => HC w) ?_) | (refine callX (.tup [.str W, .str T]) (by kernel_rfl) rfl (⟨trivial, trivial, trivial⟩) (fun β w hm => HR w) ?_) | (refine callX (.tup [.str T, .lit false]) (by kernel_rfl) rfl (⟨trivial, trivial, trivial⟩) (fun β w hm => HD w) ?_) | (refine callX (.tup [.int .i64 v, .bool true]) (by kernel_rfl) rfl (⟨trivial, trivial, trivial⟩) (fun β w hm => HX w) ?_) | (refine callNat .u32 1000000000 V hw0 (by kernel_rfl) rfl (fun β w' hm => HP w') (fun a1 c1 q1 q2 q3 => ?_)) | (refine callNat .u32 1000000000 (10 ^ k) hw0 (by kernel_rfl) rfl (fun β w' hm => by simp only [SV.dens, SV.den]; rw [hkk]; exact HT w' hm.below) (fun a2 c2 q4 q5 q6 => ?_)) | (refine callX (.tup [.agg [.str (ExP.writeF ⟨m, V, 10 ^ k⟩).1, .str (ExP.writeF ⟨m, V, 10 ^ k⟩).2], .int .i64 (ExP.writeE ⟨m, V, 10 ^ k⟩)]) (by kernel_rfl) rfl (⟨⟨trivial, trivial, trivial⟩, trivial, trivial⟩) (fun β w hm => W1 ⟨m, V, 10 ^ k, a1, c1, a2, c2⟩ w hm.below (FrIn.of (by first | exact hm.slF 1 rfl | exact hm.slF 2 rfl | exact hm.slF 3 rfl | exact hm.slF 4 rfl | exact hm.slF 5 rfl) (by first | exact hm.slF 1 rfl | exact hm.slF 2 rfl | exact hm.slF 3 rfl | exact hm.slF 4 rfl | exact hm.slF 5 rfl) ⟨q1, q4, q2, q5⟩) hkp (by dsimp only; omega) (by dsimp only; omega)) ?_)) | ((with_reducible show OpX _ _ _ _); first | (refine opx_build1 (sz := 1) rfl rfl rfl (xs := [.int .u32 1]) (fun β => rfl) rfl (by omega) (by omega) hu hsz hzv (fun g1 => ?_))) | ((with_reducible show ∃ _ : SV, _); first | fail) | ((with_reducible show ∃ _, _); first | fail))
    all_goals first | rfl | (exfalso; omega) | (exfalso; simp_all; done)
  · have hN2 : N = ⟨m, V * 10 ^ k, 1⟩ := by
      rw [hN, ExP.scaleN, if_neg hneg, ← hk]
    rw [hN2]
    have hkk : v - ((([] : List UInt8)).length : Int) = (k : Int) := by omega
    clear hN hN2
    refine enter env_ok Tryz.func111 rfl Tryz.results111 Tryz.ntmps111 [] [100018] [.str s] (by simp [SV.oks, SV.ok]) (Nat.le_of_ble_eq_true rfl) w _ 1000 ?_
    repeat' (first | ((with_reducible first | show wpS _ _ _ _ | show putD _ _ _ _ | show putW _ _ _ _ | show splitG _ _ _ | show wpQ _ _ _ _ _ _ | show wpD _ _ _ _ _ _ _ | show wpX _ _ _ _ _ _ _ | show expX _ _ _ _ _ _ | show stepX _ _ _ _ | show keepR _ _ _ | show wpY _ _ _ _); conv => whnf) | ((with_reducible show RetN _ _ _); refine retB fun β => ?_) | ((with_reducible show _ ∧ _); first | (apply And.intro; (· intro h; exfalso; first | omega | (revert h; decide)); intro _) | (apply And.intro; rotate_left; (· intro h; exfalso; first | omega | (revert h; decide)); intro _) | (refine ⟨fun _ => ?_, fun _ => ?_⟩) | (apply And.intro; · kernel_rfl) | (apply And.intro; · (show inK _ _; unfold inK; omega)) | (apply And.intro; · (show (_ : Int) ≤ 9223372036854775807; (try simp only [List.length_append, List.length_drop, List.length_take, List.length_cons, List.length_nil]); omega))) | ((with_reducible show AllBe _); refine allBe fun βe => ?_; conv => whnf) | ((with_reducible show bothX _ _); refine bothI ?_ ?_; conv => whnf) | (with_reducible exact trivial) | ((with_reducible show CallN _ _ _ _ _ _ _ _); refine call_of env_ok rfl 1000 ?_) | ((with_reducible show XopN _ _ _ _ _ _); refine xop_of env_ok rfl 1000 ?_) | ((with_reducible show CallX _ _ _ _ _ _); first | (refine callX (.tup [.str rest, .bool m]) (by kernel_rfl) rfl (⟨trivial, trivial, trivial⟩) (fun β w hm => HC w) ?_) | (refine callX (.tup [.str W, .str T]) (by kernel_rfl) rfl (⟨trivial, trivial, trivial⟩) (fun β w hm => HR w) ?_) | (refine callX (.tup [.str T, .lit false]) (by kernel_rfl) rfl (⟨trivial, trivial, trivial⟩) (fun β w hm => HD w) ?_) | (refine callX (.tup [.int .i64 v, .bool true]) (by kernel_rfl) rfl (⟨trivial, trivial, trivial⟩) (fun β w hm => HX w) ?_) | (refine callNat .u32 1000000000 V hw0 (by kernel_rfl) rfl (fun β w' hm => HP w') (fun a1 c1 q1 q2 q3 => ?_)) | (refine callNat .u32 1000000000 (10 ^ k) hw0 (by kernel_rfl) rfl (fun β w' hm => by simp only [SV.dens, SV.den]; rw [hkk]; exact HT w' hm.below) (fun a2 c2 q4 q5 q6 => ?_)) | (refine callNat .u32 1000000000 (V * 10 ^ k) hw0 (by kernel_rfl) rfl (fun β w' hm => times_any a1 a2 c1 c2 V (10 ^ k) w' (by omega) (by omega) (by first | exact hm.slF 1 rfl | exact hm.slF 2 rfl | exact hm.slF 3 rfl | exact hm.slF 4 rfl | exact hm.slF 5 rfl) (by first | exact hm.slF 1 rfl | exact hm.slF 2 rfl | exact hm.slF 3 rfl | exact hm.slF 4 rfl | exact hm.slF 5 rfl)) (fun a3 c3 q7 q8 q9 => ?_)) | (refine callX (.tup [.agg [.str (ExP.writeF ⟨m, V * 10 ^ k, 1⟩).1, .str (ExP.writeF ⟨m, V * 10 ^ k, 1⟩).2], .int .i64 (ExP.writeE ⟨m, V * 10 ^ k, 1⟩)]) (by kernel_rfl) rfl (⟨⟨trivial, trivial, trivial⟩, trivial, trivial⟩) (fun β w hm => by have W2 := W1 ⟨m, V * 10 ^ k, 1, a3, c3, some ⟨g1, 0, none⟩, 1⟩ w hm.below (FrIn.of (by first | exact hm.slF 1 rfl | exact hm.slF 2 rfl | exact hm.slF 3 rfl | exact hm.slF 4 rfl | exact hm.slF 5 rfl) (by rw [hv1]; first | exact (hm.own 1 rfl).1 | exact (hm.own 2 rfl).1 | exact (hm.own 3 rfl).1) ⟨q7, (fun h => by cases h), q8, by dsimp only; omega⟩) (by dsimp only; omega) (by dsimp only; omega) (by dsimp only; omega); simp only [FrV.val, hn1] at W2; exact W2) ?_)) | ((with_reducible show OpX _ _ _ _); first | (refine opx_build1 (sz := 1) rfl rfl rfl (xs := [.int .u32 1]) (fun β => rfl) rfl (by omega) (by omega) hu hsz hzv (fun g1 => ?_))) | ((with_reducible show ∃ _ : SV, _); first | fail) | ((with_reducible show ∃ _, _); first | fail))
    all_goals first | rfl | (exfalso; omega) | (exfalso; simp_all; done)
theorem parse_law (s : List UInt8) (w : World) (hw : XW w) (hw0 : 0 < w.heap.size) (hs : s.length ≤ 9223372036854775807) :
    Calls Tryz.prog 111 #[.string (bstr s)] w (WrOut (if ExP.parE s = 0 then ExP.writeF (ExP.decN s) else ([], [])) (if ExP.parE s = 0 then ExP.writeE (ExP.decN s) else ExP.parE s) w) := by
  have hE : ExP.parE s = if 1000 < s.length then 3 else if ExP.parX (ExP.runR (ExP.cutM s).1) = true ∨ ExP.decW s = [] ∨ ExP.expB (ExP.decT s) = false then 10 else 0 := rfl
  by_cases h : 1000 < s.length
  · rw [if_pos h] at hE
    rw [hE]
    exact parse_long s w hw hw0 hs h
  rw [if_neg h] at hE
  by_cases hx : ExP.parX (ExP.runR (ExP.cutM s).1) = true
  · rw [if_pos (.inl hx)] at hE
    rw [hE]
    exact parse_point s w hw hw0 hs (by omega) hx
  by_cases hb : ExP.decW s = [] ∨ ExP.expB (ExP.decT s) = false
  · rw [if_pos (.inr hb)] at hE
    rw [hE]
    by_cases hp : (ExP.runR (ExP.cutM s).1).head? = some 46
    · exact parse_bad1 s w hw hw0 hs (by omega) hx hp hb
    · exact parse_bad0 s w hw hw0 hs (by omega) hx hp hb
  · rw [if_neg (fun h => h.elim hx hb)] at hE
    rw [hE]
    simp only [not_or, Bool.not_eq_false] at hb
    by_cases hp : (ExP.runR (ExP.cutM s).1).head? = some 46
    · exact parse_good1 s w hw hw0 hs (by omega) hx hp hb.1 hb.2
    · exact parse_good0 s w hw hw0 hs (by omega) hx hp hb.1 hb.2
end Go.Proofs.YtdkhkfdenlabaaaGreatDoor
