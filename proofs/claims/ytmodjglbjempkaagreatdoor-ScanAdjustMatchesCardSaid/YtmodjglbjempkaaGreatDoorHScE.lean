/- Formulas adjusted: the program's and the reference's. Formulas adjusted: the law ScanAdjustMatches. -/
import Derived.Test.YtmodjglbjempkaaGreatDoorHScG
import Derived.Test.YtmodjglbjempkaaGreatDoorHTb
import Derived.Test.YtmodjglbjempkaaGreatDoorHSc13
set_option linter.unusedSimpArgs false
set_option linter.unusedVariables false
namespace Go.Proofs.YtmodjglbjempkaaGreatDoor
open Go.RowKit
open Sym
namespace Sym
/-- a variable that holds one opaque cell -/
theorem opx_box {C : Ctx} {d : Nat} {ty : TypeId} {pos : String} {after : Array Edge} {gd : Option (Nat × Bool)} {fr : List (Nat × SV)} {rows : List (Nat × Bool × SRow)} {nx n : Nat} {K : St → Prop}
    {x : Operand} {t : TypeId} {v : Value} (hd : Nat.blt d n = true) (hx : ev fr x = some (.any v)) (hv : v.cells = #[v]) (h : K ⟨(d, .ptr nx 0) :: fr, (nx, true, .cells t [.any v]) :: rows, nx + 1, n⟩) : OpX C ⟨some d, .box t x, ty, pos, after, gd⟩ ⟨fr, rows, nx, n⟩ K := by
  unfold OpX
  intro β a w hs0 next Q hn
  obtain ⟨e1, hok⟩ := ev_sound hs0 hx
  have hrun : (execOp a.eval ⟨some d, .box t x, ty, pos, after, gd⟩).run C.P w = .ok (.value (.pointer (some ⟨w.heap.size, 0, none⟩))) (w.alloc (.cells #[v] t)) := by
    simp [execOp, Instr.box, e1, newVar, newRow, SV.den, hv, World.alloc_eq]
  unfold Oper.wp
  rw [hrun]
  have hs2 := hs0.alloc (r := .cells t [.any v]) (show SV.oks nx [.any v] from ⟨hok, trivial⟩) (.cells #[v] t) (fun β' hb => by have := Row.new w t #[v]; exact this) rfl
  have hs3 := hs2.put (d := d) (by simpa [Nat.blt_eq] using hd) (v := .ptr nx 0) (by show nx < nx + 1; omega)
  have e2 : (SV.ptr nx 0).den (fun i => if i = nx then w.heap.size else β i) = .pointer (some ⟨w.heap.size, 0, none⟩) := by simp [SV.den]
  rw [e2] at hs3
  exact hn _ _ _ _ h hs3
end Sym
namespace ScP
def adjG (sh : Str) (ours : Bool) (R C : List RfP.Step) (x : RfP.Ref) : RfP.Ref := if RfP.belP x sh ours = true then RfP.thrP x R C else x
/-- what Adjust answers -/
def adjS (s sh : Str) (ours : Bool) (R C : List RfP.Step) : Str × Int := if RfP.axErr none R 0 0 ≠ 0 then ([], RfP.axErr none R 0 0) else if RfP.axErr none C 0 0 ≠ 0 then ([], RfP.axErr none C 0 0) else (rewP (adjG sh ours R C) s, 0)
theorem adjG_valid {sh : Str} {ours : Bool} {R C : List RfP.Step} {x : RfP.Ref} (hR : RfP.axErr none R 0 0 = 0) (hC : RfP.axErr none C 0 0 = 0) (h : RfP.checkP x = 0) : RfP.checkP (adjG sh ours R C x) = 0 := by
  unfold adjG
  split
  · exact RfP.thr_valid x R C h hR hC
  · exact h
end ScP
attribute [local irreducible] Calls Sym.AggEq RfP.axErr RfP.thrP
set_option maxRecDepth 100000 in
theorem adjust1_any (x : RfP.Ref) (sh : List UInt8) (ours : Bool) (la lb : Option Addr) (ca cb : Nat) (R C : List RfP.Step) (a1 a2 a3 a4 : Addr) (w : World) (h : RfP.checkP x = 0) (eR : RfP.axErr none R 0 0 = 0) (eC : RfP.axErr none C 0 0 = 0) (hR : StepsAt la R w) (hC : StepsAt lb C w) (lR : R.length ≤ 9223372036854775807) (lC : C.length ≤ 9223372036854775807) (h1 : w.cell? a1 = some (.string (bstr sh))) (h2 : w.cell? a2 = some (.bool ours)) (h3 : w.cell? a3 = some (.slice la R.length ca)) (h4 : w.cell? a4 = some (.slice lb C.length cb)) :
    Calls Tryz.prog 54 #[.agg (refC x), .pointer (some a1), .pointer (some a2), .pointer (some a3), .pointer (some a4)] w fun e w' => e = .returned (.agg (refC (ScP.adjG sh ours R C x))) ∧ Below w.heap.size w w' := by
  have e0 : RfP.throughP x R C = (RfP.thrP x R C, 0) := by unfold RfP.throughP; rw [if_neg (by omega), if_neg (by omega), if_neg (by omega)]
  have HC : ∀ w', Below w.heap.size w w' → Calls Tryz.prog 53 #[.agg (refC x), .slice la R.length ca, .slice lb C.length cb] w' (RefPost w' (RfP.throughP x R C)) := fun w' hb => Through_any x la lb ca cb R C w' (hR.below hb) (hC.below hb) lR lC
  rw [e0] at HC
  have k1 : ∀ w', Below w.heap.size w w' → w'.cell? a1 = some (.string (bstr sh)) := fun w' hb => cell_keep h1 hb
  have k2 : ∀ w', Below w.heap.size w w' → w'.cell? a2 = some (.bool ours) := fun w' hb => cell_keep h2 hb
  have k3 : ∀ w', Below w.heap.size w w' → w'.cell? a3 = some (.slice la R.length ca) := fun w' hb => cell_keep h3 hb
  have k4 : ∀ w', Below w.heap.size w w' → w'.cell? a4 = some (.slice lb C.length cb) := fun w' hb => cell_keep h4 hb
  unfold ScP.adjG
  have HM := fun w => meant_any x sh ours w
  generalize RfP.thrP x R C = y at *
  generalize RfP.belP x sh ours = q at *
  refine enter env_ok Tryz.func54 rfl Tryz.results54 Tryz.ntmps54 [] [] [rS x, .any (.pointer (some a1)), .any (.pointer (some a2)), .any (.pointer (some a3)), .any (.pointer (some a4))] ⟨rS_ok x 0, rfl, rfl, rfl, rfl, trivial⟩ (Nat.le_of_ble_eq_true rfl) w _ 1000 ?_
  repeat' (first | ((with_reducible first | show wpS _ _ _ _ | show putD _ _ _ _ | show putW _ _ _ _ | show splitG _ _ _ | show wpQ _ _ _ _ _ _ | show wpD _ _ _ _ _ _ _ | show wpX _ _ _ _ _ _ | show expX _ _ _ _ _ _ | show stepX _ _ _ _); conv => whnf) | ((with_reducible show RetN _ _ _); refine retB fun β => ?_) | ((with_reducible show _ ∧ _); first | (apply And.intro; (· intro h; exfalso; first | omega | (revert h; decide)); intro _) | (apply And.intro; rotate_left; (· intro h; exfalso; first | omega | (revert h; decide)); intro _) | (refine ⟨fun _ => ?_, fun _ => ?_⟩) | (apply And.intro; · kernel_rfl) | (apply And.intro; · (show inK _ _; unfold inK; omega)) | (apply And.intro; · (show (_ : Int) ≤ 9223372036854775807; (try simp only [List.length_append, List.length_drop, List.length_take, List.length_cons, List.length_nil]); omega))) | ((with_reducible show bothX _ _); refine bothI ?_ ?_; conv => whnf) | (with_reducible exact trivial) | ((with_reducible show CallN _ _ _ _ _ _ _ _); refine call_of env_ok rfl 1000 ?_) | ((with_reducible show XopN _ _ _ _ _ _); refine xop_of env_ok rfl 1000 ?_) | ((with_reducible show CallX _ _ _ _ _ _); first | (refine callX (.tup [.agg (rF y), .int .i64 0]) (by kernel_rfl) rfl (⟨rS_ok y _, trivial, trivial⟩) (fun β w hm => HC w hm.below) ?_) | (refine callX (.bool q) (by kernel_rfl) rfl (trivial) (fun β w hm => HM w) ?_)) | ((with_reducible show OpX _ _ _ _); first | fail) | ((with_reducible show ∃ _ : SV, _); first | (refine ⟨.str sh, fun _ _ => trivial, x_load1 (a := a1) (fun w => Tryz.isAgg9 w) (fun w' hb β => k1 w' hb), ?_⟩) | (refine ⟨.bool ours, fun _ _ => trivial, x_load1 (a := a2) (fun w => Tryz.isAgg4 w) (fun w' hb β => k2 w' hb), ?_⟩) | (refine ⟨.any (.slice la R.length ca), fun _ _ => rfl, x_load1 (a := a3) (fun w => Tryz.isAgg54 w) (fun w' hb β => k3 w' hb), ?_⟩) | (refine ⟨.any (.slice lb C.length cb), fun _ _ => rfl, x_load1 (a := a4) (fun w => Tryz.isAgg54 w) (fun w' hb β => k4 w' hb), ?_⟩)) | ((with_reducible show ∃ _, _); first | fail))
  · rw [if_pos ‹q = true›]; rfl
  · rw [if_neg (by simp [*])]; rfl
set_option maxRecDepth 100000 in
theorem radjust1_any (x : RfP.Ref) (sh : List UInt8) (ours : Bool) (la lb : Option Addr) (ca cb : Nat) (R C : List RfP.Step) (a1 a2 a3 a4 : Addr) (w : World) (h : RfP.checkP x = 0) (eR : RfP.axErr none R 0 0 = 0) (eC : RfP.axErr none C 0 0 = 0) (hR : StepsAt la R w) (hC : StepsAt lb C w) (h1 : w.cell? a1 = some (.string (bstr sh))) (h2 : w.cell? a2 = some (.bool ours)) (h3 : w.cell? a3 = some (.slice la R.length ca)) (h4 : w.cell? a4 = some (.slice lb C.length cb)) :
    Calls Tryz.prog 55 #[.agg (refC x), .pointer (some a1), .pointer (some a2), .pointer (some a3), .pointer (some a4)] w fun e w' => e = .returned (.agg (refC (ScP.adjG sh ours R C x))) ∧ Below w.heap.size w w' := by
  have HC : ∀ w', Below w.heap.size w w' → Calls Tryz.prog 56 #[.agg (refC x), .slice la R.length ca, .slice lb C.length cb] w' fun e w'' => e = .returned (.agg (refC (RfP.thrR x R C))) ∧ Below w'.heap.size w' w'' := fun w' hb => RThrough_any x la lb ca cb R C w' (hR.below hb) (hC.below hb) (okl_of eR) (okl_of eC) h
  rw [← RfP.thr_same x R C h (okl_of eR) (okl_of eC)] at HC
  have k1 : ∀ w', Below w.heap.size w w' → w'.cell? a1 = some (.string (bstr sh)) := fun w' hb => cell_keep h1 hb
  have k2 : ∀ w', Below w.heap.size w w' → w'.cell? a2 = some (.bool ours) := fun w' hb => cell_keep h2 hb
  have k3 : ∀ w', Below w.heap.size w w' → w'.cell? a3 = some (.slice la R.length ca) := fun w' hb => cell_keep h3 hb
  have k4 : ∀ w', Below w.heap.size w w' → w'.cell? a4 = some (.slice lb C.length cb) := fun w' hb => cell_keep h4 hb
  unfold ScP.adjG
  have HM := fun w => belongs_any x sh ours w
  generalize RfP.thrP x R C = y at *
  generalize RfP.belP x sh ours = q at *
  refine enter env_ok Tryz.func55 rfl Tryz.results55 Tryz.ntmps55 [] [] [rS x, .any (.pointer (some a1)), .any (.pointer (some a2)), .any (.pointer (some a3)), .any (.pointer (some a4))] ⟨rS_ok x 0, rfl, rfl, rfl, rfl, trivial⟩ (Nat.le_of_ble_eq_true rfl) w _ 1000 ?_
  repeat' (first | ((with_reducible first | show wpS _ _ _ _ | show putD _ _ _ _ | show putW _ _ _ _ | show splitG _ _ _ | show wpQ _ _ _ _ _ _ | show wpD _ _ _ _ _ _ _ | show wpX _ _ _ _ _ _ | show expX _ _ _ _ _ _ | show stepX _ _ _ _); conv => whnf) | ((with_reducible show RetN _ _ _); refine retB fun β => ?_) | ((with_reducible show _ ∧ _); first | (apply And.intro; (· intro h; exfalso; first | omega | (revert h; decide)); intro _) | (apply And.intro; rotate_left; (· intro h; exfalso; first | omega | (revert h; decide)); intro _) | (refine ⟨fun _ => ?_, fun _ => ?_⟩) | (apply And.intro; · kernel_rfl) | (apply And.intro; · (show inK _ _; unfold inK; omega)) | (apply And.intro; · (show (_ : Int) ≤ 9223372036854775807; (try simp only [List.length_append, List.length_drop, List.length_take, List.length_cons, List.length_nil]); omega))) | ((with_reducible show bothX _ _); refine bothI ?_ ?_; conv => whnf) | (with_reducible exact trivial) | ((with_reducible show CallN _ _ _ _ _ _ _ _); refine call_of env_ok rfl 1000 ?_) | ((with_reducible show XopN _ _ _ _ _ _); refine xop_of env_ok rfl 1000 ?_) | ((with_reducible show CallX _ _ _ _ _ _); first | (refine callX (rS y) (by kernel_rfl) rfl (rS_ok y _) (fun β w hm => HC w hm.below) ?_) | (refine callX (.bool q) (by kernel_rfl) rfl (trivial) (fun β w hm => HM w) ?_)) | ((with_reducible show OpX _ _ _ _); first | fail) | ((with_reducible show ∃ _ : SV, _); first | (refine ⟨.str sh, fun _ _ => trivial, x_load1 (a := a1) (fun w => Tryz.isAgg9 w) (fun w' hb β => k1 w' hb), ?_⟩) | (refine ⟨.bool ours, fun _ _ => trivial, x_load1 (a := a2) (fun w => Tryz.isAgg4 w) (fun w' hb β => k2 w' hb), ?_⟩) | (refine ⟨.any (.slice la R.length ca), fun _ _ => rfl, x_load1 (a := a3) (fun w => Tryz.isAgg54 w) (fun w' hb β => k3 w' hb), ?_⟩) | (refine ⟨.any (.slice lb C.length cb), fun _ _ => rfl, x_load1 (a := a4) (fun w => Tryz.isAgg54 w) (fun w' hb β => k4 w' hb), ?_⟩)) | ((with_reducible show ∃ _, _); first | fail))
  · rw [if_pos ‹q = true›]; rfl
  · rw [if_neg (by simp [*])]; rfl
set_option maxRecDepth 100000 in
theorem sAdjust_any (s sh : List UInt8) (ours : Bool) (la lb : Option Addr) (ca cb : Nat) (R C : List RfP.Step) (w : World) (hs : s.length ≤ 1000) (hw0 : 0 < w.heap.size) (hw : LW w) (hR : StepsAt la R w) (hC : StepsAt lb C w) (lR : R.length ≤ 9223372036854775807) (lC : C.length ≤ 9223372036854775807) :
    Calls Tryz.prog 25 #[.string (bstr s), .string (bstr sh), .bool ours, .slice la R.length ca, .slice lb C.length cb] w fun e w' => e = .returned (.tuple #[.string (bstr (ScP.adjS s sh ours R C).1), .int .i64 (ScP.adjS s sh ours R C).2]) ∧ Below w.heap.size w w' := by
  have HC : ∀ w', Below w.heap.size w w' → Calls Tryz.prog 53 #[.agg (refC RfP.zeroR), .slice la R.length ca, .slice lb C.length cb] w' (RefPost w' (RfP.throughP RfP.zeroR R C)) := fun w' hb => Through_any RfP.zeroR la lb ca cb R C w' (hR.below hb) (hC.below hb) lR lC
  have e0 : RfP.throughP RfP.zeroR R C = if RfP.axErr none R 0 0 ≠ 0 then (RfP.zeroR, RfP.axErr none R 0 0) else if RfP.axErr none C 0 0 ≠ 0 then (RfP.zeroR, RfP.axErr none C 0 0) else (RfP.thrP RfP.zeroR R C, 0) := by unfold RfP.throughP; rw [if_neg (by rw [RfP.zero_valid]; simp)]
  rw [e0] at HC
  clear e0
  unfold ScP.adjS
  have hok : SV.oks 0 [.str s, .str sh, .bool ours, .any (.slice la R.length ca), .any (.slice lb C.length cb)] := ⟨trivial, trivial, trivial, rfl, rfl, trivial⟩
  by_cases e1 : RfP.axErr none R 0 0 = 0
  · rw [if_neg (by omega)] at HC ⊢
    by_cases e2 : RfP.axErr none C 0 0 = 0
    · rw [if_neg (by omega)] at HC ⊢
      refine enter env_ok Tryz.func25 rfl Tryz.results25 Tryz.ntmps25 [100008, 100009] [] [.str s, .str sh, .bool ours, .any (.slice la R.length ca), .any (.slice lb C.length cb)] hok (Nat.le_of_ble_eq_true rfl) w _ 1000 ?_
      repeat' (first | ((with_reducible first | show wpS _ _ _ _ | show putD _ _ _ _ | show putW _ _ _ _ | show splitG _ _ _ | show wpQ _ _ _ _ _ _ | show wpD _ _ _ _ _ _ _ | show wpX _ _ _ _ _ _ | show expX _ _ _ _ _ _ | show stepX _ _ _ _); conv => whnf) | ((with_reducible show RetN _ _ _); refine retB fun β => ?_) | ((with_reducible show _ ∧ _); first | (apply And.intro; (· intro h; exfalso; first | omega | (revert h; decide)); intro _) | (apply And.intro; rotate_left; (· intro h; exfalso; first | omega | (revert h; decide)); intro _) | (refine ⟨fun _ => ?_, fun _ => ?_⟩) | (apply And.intro; · kernel_rfl) | (apply And.intro; · (show inK _ _; unfold inK; omega)) | (apply And.intro; · (show (_ : Int) ≤ 9223372036854775807; (try simp only [List.length_append, List.length_drop, List.length_take, List.length_cons, List.length_nil]); omega))) | ((with_reducible show bothX _ _); refine bothI ?_ ?_; conv => whnf) | (with_reducible exact trivial) | ((with_reducible show CallN _ _ _ _ _ _ _ _); refine call_of env_ok rfl 1000 ?_) | ((with_reducible show XopN _ _ _ _ _ _); refine xop_of env_ok rfl 1000 ?_) | ((with_reducible show CallX _ _ _ _ _ _); first | (refine callX (.tup [.agg (rF (RfP.thrP RfP.zeroR R C)), .int .i64 0]) (by kernel_rfl) rfl (⟨rS_ok _ _, trivial, trivial⟩) (fun β w hm => HC w hm.below) ?_) | (refine callX (.str (ScP.rewP (ScP.adjG sh ours R C) s)) (by kernel_rfl) rfl trivial (fun β w' hm => ?_) ?_)) | ((with_reducible show OpX _ _ _ _); first | (refine opx_box rfl rfl rfl ?_)) | ((with_reducible show ∃ _ : SV, _); first | (refine ⟨_, ?ok, x_func, ?_⟩; (case ok => exact fun n h => h))) | ((with_reducible show ∃ _, _); first | fail))
      · have h1 : w'.cell? ⟨β 0, 0, none⟩ = some (.string (bstr sh)) := mem_cell hm 0 0 rfl rfl
        have h2 : w'.cell? ⟨β 1, 0, none⟩ = some (.bool ours) := mem_cell hm 1 0 rfl rfl
        have h3 : w'.cell? ⟨β 2, 0, none⟩ = some (.slice la R.length ca) := mem_cell hm 2 0 rfl rfl
        have h4 : w'.cell? ⟨β 3, 0, none⟩ = some (.slice lb C.length cb) := mem_cell hm 3 0 rfl rfl
        have hR' := hR.below hm.below
        have hC' := hC.below hm.below
        exact replaced_any s 54 [.pointer (some ⟨β 0, 0, none⟩), .pointer (some ⟨β 1, 0, none⟩), .pointer (some ⟨β 2, 0, none⟩), .pointer (some ⟨β 3, 0, none⟩)] (ScP.adjG sh ours R C) w' hs (Nat.lt_of_lt_of_le hw0 hm.base_le) (hw.below hm.below) (by kernel_rfl) (by simp [Value.oneCell']) (fun x hx => ScP.adjG_valid e1 e2 hx)
          (fun x w1 hx hb => adjust1_any x sh ours la lb ca cb R C _ _ _ _ w1 hx e1 e2 (hR'.below hb) (hC'.below hb) lR lC (cell_keep h1 hb) (cell_keep h2 hb) (cell_keep h3 hb) (cell_keep h4 hb))
      all_goals rfl
    · rw [if_pos e2] at HC ⊢
      generalize RfP.axErr none C 0 0 = q at *
      refine enter env_ok Tryz.func25 rfl Tryz.results25 Tryz.ntmps25 [100008, 100009] [] [.str s, .str sh, .bool ours, .any (.slice la R.length ca), .any (.slice lb C.length cb)] hok (Nat.le_of_ble_eq_true rfl) w _ 1000 ?_
      repeat' (first | ((with_reducible first | show wpS _ _ _ _ | show putD _ _ _ _ | show putW _ _ _ _ | show splitG _ _ _ | show wpQ _ _ _ _ _ _ | show wpD _ _ _ _ _ _ _ | show wpX _ _ _ _ _ _ | show expX _ _ _ _ _ _ | show stepX _ _ _ _); conv => whnf) | ((with_reducible show RetN _ _ _); refine retB fun β => ?_) | ((with_reducible show _ ∧ _); first | (apply And.intro; (· intro h; exfalso; first | omega | (revert h; decide)); intro _) | (apply And.intro; rotate_left; (· intro h; exfalso; first | omega | (revert h; decide)); intro _) | (refine ⟨fun _ => ?_, fun _ => ?_⟩) | (apply And.intro; · kernel_rfl) | (apply And.intro; · (show inK _ _; unfold inK; omega)) | (apply And.intro; · (show (_ : Int) ≤ 9223372036854775807; (try simp only [List.length_append, List.length_drop, List.length_take, List.length_cons, List.length_nil]); omega))) | ((with_reducible show bothX _ _); refine bothI ?_ ?_; conv => whnf) | (with_reducible exact trivial) | ((with_reducible show CallN _ _ _ _ _ _ _ _); refine call_of env_ok rfl 1000 ?_) | ((with_reducible show XopN _ _ _ _ _ _); refine xop_of env_ok rfl 1000 ?_) | ((with_reducible show CallX _ _ _ _ _ _); first | (refine callX (.tup [.agg (rF RfP.zeroR), .int .i64 q]) (by kernel_rfl) rfl (⟨rS_ok _ _, trivial, trivial⟩) (fun β w hm => HC w hm.below) ?_)) | ((with_reducible show OpX _ _ _ _); first | (refine opx_box rfl rfl rfl ?_)) | ((with_reducible show ∃ _ : SV, _); first | fail) | ((with_reducible show ∃ _, _); first | fail))
      all_goals rfl
  · rw [if_pos e1] at HC ⊢
    generalize RfP.axErr none R 0 0 = q at *
    refine enter env_ok Tryz.func25 rfl Tryz.results25 Tryz.ntmps25 [100008, 100009] [] [.str s, .str sh, .bool ours, .any (.slice la R.length ca), .any (.slice lb C.length cb)] hok (Nat.le_of_ble_eq_true rfl) w _ 1000 ?_
    repeat' (first | ((with_reducible first | show wpS _ _ _ _ | show putD _ _ _ _ | show putW _ _ _ _ | show splitG _ _ _ | show wpQ _ _ _ _ _ _ | show wpD _ _ _ _ _ _ _ | show wpX _ _ _ _ _ _ | show expX _ _ _ _ _ _ | show stepX _ _ _ _); conv => whnf) | ((with_reducible show RetN _ _ _); refine retB fun β => ?_) | ((with_reducible show _ ∧ _); first | (apply And.intro; (· intro h; exfalso; first | omega | (revert h; decide)); intro _) | (apply And.intro; rotate_left; (· intro h; exfalso; first | omega | (revert h; decide)); intro _) | (refine ⟨fun _ => ?_, fun _ => ?_⟩) | (apply And.intro; · kernel_rfl) | (apply And.intro; · (show inK _ _; unfold inK; omega)) | (apply And.intro; · (show (_ : Int) ≤ 9223372036854775807; (try simp only [List.length_append, List.length_drop, List.length_take, List.length_cons, List.length_nil]); omega))) | ((with_reducible show bothX _ _); refine bothI ?_ ?_; conv => whnf) | (with_reducible exact trivial) | ((with_reducible show CallN _ _ _ _ _ _ _ _); refine call_of env_ok rfl 1000 ?_) | ((with_reducible show XopN _ _ _ _ _ _); refine xop_of env_ok rfl 1000 ?_) | ((with_reducible show CallX _ _ _ _ _ _); first | (refine callX (.tup [.agg (rF RfP.zeroR), .int .i64 q]) (by kernel_rfl) rfl (⟨rS_ok _ _, trivial, trivial⟩) (fun β w hm => HC w hm.below) ?_)) | ((with_reducible show OpX _ _ _ _); first | (refine opx_box rfl rfl rfl ?_)) | ((with_reducible show ∃ _ : SV, _); first | fail) | ((with_reducible show ∃ _, _); first | fail))
    all_goals rfl
set_option maxRecDepth 100000 in
theorem rAdjusted_any (s sh : List UInt8) (ours : Bool) (la lb : Option Addr) (ca cb : Nat) (R C : List RfP.Step) (w : World) (hs : s.length ≤ 1000) (hw0 : 0 < w.heap.size) (hw : FT w) (hR : StepsAt la R w) (hC : StepsAt lb C w) (e1 : RfP.axErr none R 0 0 = 0) (e2 : RfP.axErr none C 0 0 = 0) :
    Calls Tryz.prog 27 #[.string (bstr s), .string (bstr sh), .bool ours, .slice la R.length ca, .slice lb C.length cb] w fun e w' => e = .returned (.string (bstr (ScP.rewP (ScP.adjG sh ours R C) s))) ∧ Below w.heap.size w w' := by
  refine enter env_ok Tryz.func27 rfl Tryz.results27 Tryz.ntmps27 [100008, 100009] [] [.str s, .str sh, .bool ours, .any (.slice la R.length ca), .any (.slice lb C.length cb)] ⟨trivial, trivial, trivial, rfl, rfl, trivial⟩ (Nat.le_of_ble_eq_true rfl) w _ 1000 ?_
  repeat' (first | ((with_reducible first | show wpS _ _ _ _ | show putD _ _ _ _ | show putW _ _ _ _ | show splitG _ _ _ | show wpQ _ _ _ _ _ _ | show wpD _ _ _ _ _ _ _ | show wpX _ _ _ _ _ _ | show expX _ _ _ _ _ _ | show stepX _ _ _ _); conv => whnf) | ((with_reducible show RetN _ _ _); refine retB fun β => ?_) | ((with_reducible show _ ∧ _); first | (apply And.intro; (· intro h; exfalso; first | omega | (revert h; decide)); intro _) | (apply And.intro; rotate_left; (· intro h; exfalso; first | omega | (revert h; decide)); intro _) | (refine ⟨fun _ => ?_, fun _ => ?_⟩) | (apply And.intro; · kernel_rfl) | (apply And.intro; · (show inK _ _; unfold inK; omega)) | (apply And.intro; · (show (_ : Int) ≤ 9223372036854775807; (try simp only [List.length_append, List.length_drop, List.length_take, List.length_cons, List.length_nil]); omega))) | ((with_reducible show bothX _ _); refine bothI ?_ ?_; conv => whnf) | (with_reducible exact trivial) | ((with_reducible show CallN _ _ _ _ _ _ _ _); refine call_of env_ok rfl 1000 ?_) | ((with_reducible show XopN _ _ _ _ _ _); refine xop_of env_ok rfl 1000 ?_) | ((with_reducible show CallX _ _ _ _ _ _); first | (refine callX (.str (ScP.rewP (ScP.adjG sh ours R C) s)) (by kernel_rfl) rfl trivial (fun β w' hm => ?_) ?_)) | ((with_reducible show OpX _ _ _ _); first | (refine opx_box rfl rfl rfl ?_)) | ((with_reducible show ∃ _ : SV, _); first | (refine ⟨_, ?ok, x_func, ?_⟩; (case ok => exact fun n h => h))) | ((with_reducible show ∃ _, _); first | fail))
  · have h1 : w'.cell? ⟨β 0, 0, none⟩ = some (.string (bstr sh)) := mem_cell hm 0 0 rfl rfl
    have h2 : w'.cell? ⟨β 1, 0, none⟩ = some (.bool ours) := mem_cell hm 1 0 rfl rfl
    have h3 : w'.cell? ⟨β 2, 0, none⟩ = some (.slice la R.length ca) := mem_cell hm 2 0 rfl rfl
    have h4 : w'.cell? ⟨β 3, 0, none⟩ = some (.slice lb C.length cb) := mem_cell hm 3 0 rfl rfl
    have hR' := hR.below hm.below
    have hC' := hC.below hm.below
    exact rewritten_any s 55 [.pointer (some ⟨β 0, 0, none⟩), .pointer (some ⟨β 1, 0, none⟩), .pointer (some ⟨β 2, 0, none⟩), .pointer (some ⟨β 3, 0, none⟩)] (ScP.adjG sh ours R C) w' hs (Nat.lt_of_lt_of_le hw0 hm.base_le) (hw.below hm.below) (by kernel_rfl) (by simp [Value.oneCell']) (fun x hx => ScP.adjG_valid e1 e2 hx)
      (fun x w1 hx hb => radjust1_any x sh ours la lb ca cb R C _ _ _ _ w1 hx e1 e2 (hR'.below hb) (hC'.below hb) (cell_keep h1 hb) (cell_keep h2 hb) (cell_keep h3 hb) (cell_keep h4 hb))
  all_goals rfl
end Go.Proofs.YtmodjglbjempkaaGreatDoor
namespace Go.Proofs.YtmodjglbjempkaaGreatDoor
open Go.RowKit
open Sym
attribute [local irreducible] Calls Sym.AggEq RfP.axErr RfP.thrP
set_option maxRecDepth 100000 in
set_option maxHeartbeats 4000000 in
theorem adjustLaw_any (s sh : List UInt8) (ours : Bool) (la lb : Option Addr) (ca cb : Nat) (R C : List RfP.Step) (w : World) (hL : LW w) (hF : FT w) (hR : StepsAt la R w) (hC : StepsAt lb C w) (lR : R.length ≤ 9223372036854775807) (lC : C.length ≤ 9223372036854775807) :
    Calls Tryz.prog 5 #[.string (bstr s), .string (bstr sh), .bool ours, .slice la R.length ca, .slice lb C.length cb] w (TruePost w) := by
  unfold TruePost
  have hp := hF.pos
  have H1 := fun w => long_any s w
  have hl : (s.take (min s.length 400)).length ≤ 400 := by simp; omega
  generalize s.take (min s.length 400) = t at *
  have HA : ∀ w', Below w.heap.size w w' → w.heap.size ≤ w'.heap.size → _ := fun w' hb h0 => sAdjust_any t sh ours la lb ca cb R C w' (by omega) (Nat.lt_of_lt_of_le hp h0) (hL.below hb) (hR.below hb) (hC.below hb) lR lC
  have HE1 : ∀ w', Below w.heap.size w w' → _ := fun w' hb => axisError_any la ca R w' (hR.below hb) lR
  have HE2 : ∀ w', Below w.heap.size w w' → _ := fun w' hb => axisError_any lb cb C w' (hC.below hb) lC
  have HJ : RfP.axErr none R 0 0 = 0 → RfP.axErr none C 0 0 = 0 → ∀ w', Below w.heap.size w w' → w.heap.size ≤ w'.heap.size → _ := fun e1 e2 w' hb h0 => rAdjusted_any t sh ours la lb ca cb R C w' (by omega) (Nat.lt_of_lt_of_le hp h0) (hF.below hb) (hR.below hb) (hC.below hb) e1 e2
  clear hL hF hR hC
  unfold ScP.adjS at HA
  have hok : SV.oks 0 [.str s, .str sh, .bool ours, .any (.slice la R.length ca), .any (.slice lb C.length cb)] := ⟨trivial, trivial, trivial, rfl, rfl, trivial⟩
  generalize RfP.axErr none R 0 0 = q1 at *
  generalize RfP.axErr none C 0 0 = q2 at *
  generalize ScP.rewP (ScP.adjG sh ours R C) t = u at *
  by_cases e1 : q1 = 0
  · rw [if_neg (by omega)] at HA
    by_cases e2 : q2 = 0
    · rw [if_neg (by omega)] at HA
      have HK := HJ e1 e2
      clear HJ
      subst e1 e2
      refine enter env_ok Tryz.func5 rfl Tryz.results5 Tryz.ntmps5 [] [] [.str s, .str sh, .bool ours, .any (.slice la R.length ca), .any (.slice lb C.length cb)] hok (Nat.le_of_ble_eq_true rfl) w _ 1000 ?_
      repeat' (first | ((with_reducible first | show wpS _ _ _ _ | show putD _ _ _ _ | show putW _ _ _ _ | show splitG _ _ _ | show wpQ _ _ _ _ _ _ | show wpD _ _ _ _ _ _ _ | show wpX _ _ _ _ _ _ | show expX _ _ _ _ _ _ | show stepX _ _ _ _); conv => whnf) | ((with_reducible show RetN _ _ _); refine retB fun β => ?_) | ((with_reducible show _ ∧ _); first | (apply And.intro; (· intro h; exfalso; first | omega | (revert h; decide)); intro _) | (apply And.intro; rotate_left; (· intro h; exfalso; first | omega | (revert h; decide)); intro _) | (refine ⟨fun _ => ?_, fun _ => ?_⟩) | (apply And.intro; · kernel_rfl) | (apply And.intro; · (show inK _ _; unfold inK; omega)) | (apply And.intro; · (show (_ : Int) ≤ 9223372036854775807; (try simp only [List.length_append, List.length_drop, List.length_take, List.length_cons, List.length_nil]); omega))) | ((with_reducible show bothX _ _); refine bothI ?_ ?_; conv => whnf) | (with_reducible exact trivial) | ((with_reducible show CallN _ _ _ _ _ _ _ _); refine call_of env_ok rfl 1000 ?_) | ((with_reducible show XopN _ _ _ _ _ _); refine xop_of env_ok rfl 1000 ?_) | ((with_reducible show CallX _ _ _ _ _ _); first | (refine callX (.lit true) (by kernel_rfl) rfl (trivial) (fun β w hm => scans_any w (Nat.lt_of_lt_of_le hp hm.base_le)) ?_) | (refine callX (.str t) (by kernel_rfl) rfl (trivial) (fun β w hm => H1 w) ?_) | (refine callX (.tup [.str u, .int .i64 0]) (by kernel_rfl) rfl (⟨trivial, trivial, trivial⟩) (fun β w hm => HA w hm.below hm.base_le) ?_) | (refine callX (.int .i64 0) (by kernel_rfl) rfl (trivial) (fun β w hm => HE1 w hm.below) ?_) | (refine callX (.int .i64 0) (by kernel_rfl) rfl (trivial) (fun β w hm => HE2 w hm.below) ?_) | (refine callX (.str u) (by kernel_rfl) rfl (trivial) (fun β w hm => HK w hm.below hm.base_le) ?_)) | ((with_reducible show OpX _ _ _ _); first | fail) | ((with_reducible show ∃ _ : SV, _); first | fail) | ((with_reducible show ∃ _, _); first | fail))
      all_goals first | (simp [SV.den]; done) | simp_all
    · rw [if_pos e2] at HA
      subst e1
      clear HJ
      refine enter env_ok Tryz.func5 rfl Tryz.results5 Tryz.ntmps5 [] [] [.str s, .str sh, .bool ours, .any (.slice la R.length ca), .any (.slice lb C.length cb)] hok (Nat.le_of_ble_eq_true rfl) w _ 1000 ?_
      repeat' (first | ((with_reducible first | show wpS _ _ _ _ | show putD _ _ _ _ | show putW _ _ _ _ | show splitG _ _ _ | show wpQ _ _ _ _ _ _ | show wpD _ _ _ _ _ _ _ | show wpX _ _ _ _ _ _ | show expX _ _ _ _ _ _ | show stepX _ _ _ _); conv => whnf) | ((with_reducible show RetN _ _ _); refine retB fun β => ?_) | ((with_reducible show _ ∧ _); first | (apply And.intro; (· intro h; exfalso; first | omega | (revert h; decide)); intro _) | (apply And.intro; rotate_left; (· intro h; exfalso; first | omega | (revert h; decide)); intro _) | (refine ⟨fun _ => ?_, fun _ => ?_⟩) | (apply And.intro; · kernel_rfl) | (apply And.intro; · (show inK _ _; unfold inK; omega)) | (apply And.intro; · (show (_ : Int) ≤ 9223372036854775807; (try simp only [List.length_append, List.length_drop, List.length_take, List.length_cons, List.length_nil]); omega))) | ((with_reducible show bothX _ _); refine bothI ?_ ?_; conv => whnf) | (with_reducible exact trivial) | ((with_reducible show CallN _ _ _ _ _ _ _ _); refine call_of env_ok rfl 1000 ?_) | ((with_reducible show XopN _ _ _ _ _ _); refine xop_of env_ok rfl 1000 ?_) | ((with_reducible show CallX _ _ _ _ _ _); first | (refine callX (.lit true) (by kernel_rfl) rfl (trivial) (fun β w hm => scans_any w (Nat.lt_of_lt_of_le hp hm.base_le)) ?_) | (refine callX (.str t) (by kernel_rfl) rfl (trivial) (fun β w hm => H1 w) ?_) | (refine callX (.tup [.str [], .int .i64 q2]) (by kernel_rfl) rfl (⟨trivial, trivial, trivial⟩) (fun β w hm => HA w hm.below hm.base_le) ?_) | (refine callX (.int .i64 0) (by kernel_rfl) rfl (trivial) (fun β w hm => HE1 w hm.below) ?_) | (refine callX (.int .i64 q2) (by kernel_rfl) rfl (trivial) (fun β w hm => HE2 w hm.below) ?_)) | ((with_reducible show OpX _ _ _ _); first | fail) | ((with_reducible show ∃ _ : SV, _); first | fail) | ((with_reducible show ∃ _, _); first | fail))
      all_goals first | (simp [SV.den]; done) | simp_all
  · rw [if_pos e1] at HA
    clear HJ HE2
    refine enter env_ok Tryz.func5 rfl Tryz.results5 Tryz.ntmps5 [] [] [.str s, .str sh, .bool ours, .any (.slice la R.length ca), .any (.slice lb C.length cb)] hok (Nat.le_of_ble_eq_true rfl) w _ 1000 ?_
    repeat' (first | ((with_reducible first | show wpS _ _ _ _ | show putD _ _ _ _ | show putW _ _ _ _ | show splitG _ _ _ | show wpQ _ _ _ _ _ _ | show wpD _ _ _ _ _ _ _ | show wpX _ _ _ _ _ _ | show expX _ _ _ _ _ _ | show stepX _ _ _ _); conv => whnf) | ((with_reducible show RetN _ _ _); refine retB fun β => ?_) | ((with_reducible show _ ∧ _); first | (apply And.intro; (· intro h; exfalso; first | omega | (revert h; decide)); intro _) | (apply And.intro; rotate_left; (· intro h; exfalso; first | omega | (revert h; decide)); intro _) | (refine ⟨fun _ => ?_, fun _ => ?_⟩) | (apply And.intro; · kernel_rfl) | (apply And.intro; · (show inK _ _; unfold inK; omega)) | (apply And.intro; · (show (_ : Int) ≤ 9223372036854775807; (try simp only [List.length_append, List.length_drop, List.length_take, List.length_cons, List.length_nil]); omega))) | ((with_reducible show bothX _ _); refine bothI ?_ ?_; conv => whnf) | (with_reducible exact trivial) | ((with_reducible show CallN _ _ _ _ _ _ _ _); refine call_of env_ok rfl 1000 ?_) | ((with_reducible show XopN _ _ _ _ _ _); refine xop_of env_ok rfl 1000 ?_) | ((with_reducible show CallX _ _ _ _ _ _); first | (refine callX (.lit true) (by kernel_rfl) rfl (trivial) (fun β w hm => scans_any w (Nat.lt_of_lt_of_le hp hm.base_le)) ?_) | (refine callX (.str t) (by kernel_rfl) rfl (trivial) (fun β w hm => H1 w) ?_) | (refine callX (.tup [.str [], .int .i64 q1]) (by kernel_rfl) rfl (⟨trivial, trivial, trivial⟩) (fun β w hm => HA w hm.below hm.base_le) ?_) | (refine callX (.int .i64 q1) (by kernel_rfl) rfl (trivial) (fun β w hm => HE1 w hm.below) ?_)) | ((with_reducible show OpX _ _ _ _); first | fail) | ((with_reducible show ∃ _ : SV, _); first | fail) | ((with_reducible show ∃ _, _); first | fail))
    all_goals first | (simp [SV.den]; done) | simp_all
end Go.Proofs.YtmodjglbjempkaaGreatDoor
