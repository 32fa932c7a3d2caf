/- Values, the program: the first that is not 0. Values, the program: Order. Values, plainly: program and reference compare and order alike. Values, the program: a number that is entered; 25 percent. Values, the program: the calendar. Values, the reference: the calendar. Values: 25 percent is entered; the law of the calendar. -/
import Derived.Test.YtdkhkfdenlabaaaGreatDoorKGW
import Derived.Test.YtdkhkfdenlabaaaGreatDoorKVaW10
import Derived.Test.YtdkhkfdenlabaaaGreatDoorKGI
set_option linter.unusedSimpArgs false
set_option linter.unusedVariables false
namespace Go.Proofs.YtdkhkfdenlabaaaGreatDoor
open Go.RowKit
open Sym
attribute [local irreducible] Calls Sym.AggEq ExP.nd ExP.dig ExP.upd ExP.writeF ExP.writeE
/-- the first that is not 0 -/
def VaP.orI (x y : Int) : Int := if x ≠ 0 then x else y
set_option maxRecDepth 100000 in
set_option maxHeartbeats 4000000 in
theorem or_any (a : Option Addr) (cap : Nat) (x y : Int) (w : World) (hs : SlAt a [.int .i64 x, .int .i64 y] w) : Calls Tryz.prog 92 #[.slice a 2 cap] w fun e w' => e = .returned (.int .i64 (VaP.orI x y)) ∧ Below w.heap.size w w' := by
  obtain ⟨ad, rfl⟩ : ∃ ad, a = some ad := SlAt.some hs (fun e => by cases e)
  have c0 := sl_read hs (i := 0) (v := .int .i64 x) rfl
  have c1 := sl_read hs (i := 1) (v := .int .i64 y) rfl
  unfold VaP.orI
  refine enter env_ok Tryz.func92 rfl Tryz.results92 Tryz.ntmps92 [] [] [.any (.slice (some ad) 2 cap)] ⟨rfl, trivial⟩ (Nat.le_of_ble_eq_true rfl) w _ 1000 ?_
  repeat' (first | ((with_reducible first | show wpS .. | show putD .. | show putW .. | show splitG .. | show wpQ .. | show wpD .. | show wpX .. | show expX .. | show stepX .. | show keepR .. | show wpY ..); conv => whnf) | ((with_reducible show RetN ..); refine retB fun β => ?_) | ((with_reducible show _ ∧ _); first | (refine ⟨fun h => absurd h (by first | omega | decide), fun _ => ?_⟩) | (refine ⟨fun _ => ?_, fun h => absurd h (by first | omega | decide)⟩) | (refine ⟨fun _ => ?_, fun _ => ?_⟩) | (apply And.intro; · kernel_rfl) | (apply And.intro; · (show inK _ _; unfold inK; omega)) | (apply And.intro; · (show (_ : Int) ≤ 9223372036854775807; (try simp only [lenS]); omega))) | ((with_reducible show AllBe ..); refine allBe fun βe => ?_; conv => whnf) | ((with_reducible show bothX ..); refine bothI ?_ ?_; conv => whnf) | (with_reducible exact trivial) | ((with_reducible show CallN ..); refine call_of env_ok rfl 1000 ?_) | ((with_reducible show XopN ..); refine xop_of env_ok rfl 1000 ?_) | ((with_reducible show CallX ..); first | fail) | ((with_reducible show OpX ..); first | fail) | ((with_reducible show ∃ _ : SV, _); first | (refine ⟨_, ?ok, x_len Tryz.underlying69, ?_⟩; (case ok => exact fun _ _ => trivial))) | ((with_reducible show ∃ _, _); first | fail))
  refine loop env_ok rfl (T := {i : Nat // i ≤ 2 ∧ (0 < i → x = 0) ∧ (1 < i → y = 0)}) (fun t => ⟨[(3, .int .i64 0), (6, .any (.slice (some ad) 2 cap)), (7, .int .i64 2), (8, .int .i64 (t.1 : Nat))], [], 0, 18⟩) (fun t => 2 - t.1) ⟨0, by omega, by omega, by omega⟩ 1000 [] [] (fun _ => Nat.zero_le _) (by ((with_reducible show wk _ _); repeat' (first | exact trivial | exact eqSV_refl _ | (refine eqI ?_) | (refine eqS ?_) | (with_reducible exact rfl) | apply And.intro | exact Nat.zero_lt_one | exact Nat.le_of_ble_eq_true rfl | (with_reducible assumption) | ((show (_ : Int) = _); (try dsimp only); omega) | ((show eqSV _ _); simp [eqSV, isB, bval, *]; done) | rfl))) (fun t I hI => ?_)
  obtain ⟨i, hi, hz1, hz2⟩ := t
  dsimp only
  rcases (by omega : i = 0 ∨ i = 1 ∨ i = 2) with rfl | rfl | rfl
  · repeat' (first | ((with_reducible first | show wpS .. | show putD .. | show putW .. | show splitG .. | show wpQ .. | show wpD .. | show wpX .. | show expX .. | show stepX .. | show keepR .. | show wpY ..); conv => whnf) | ((with_reducible show RetN ..); refine retB fun β => ?_) | ((with_reducible show _ ∧ _); first | (refine ⟨fun h => absurd h (by first | omega | decide), fun _ => ?_⟩) | (refine ⟨fun _ => ?_, fun h => absurd h (by first | omega | decide)⟩) | (refine ⟨fun _ => ?_, fun _ => ?_⟩) | (apply And.intro; · kernel_rfl) | (apply And.intro; · (show inK _ _; unfold inK; omega)) | (apply And.intro; · (show (_ : Int) ≤ 9223372036854775807; (try simp only [lenS]); omega))) | ((with_reducible show AllBe ..); refine allBe fun βe => ?_; conv => whnf) | ((with_reducible show bothX ..); refine bothI ?_ ?_; conv => whnf) | (with_reducible exact trivial) | ((with_reducible show CallN ..); refine call_of env_ok rfl 1000 ?_) | ((with_reducible show XopN ..); refine xop_of env_ok rfl 1000 ?_) | ((with_reducible show CallX ..); first | fail) | ((with_reducible show OpX ..); first | fail) | ((with_reducible show ∃ _ : SV, _); first | (refine ⟨_, ?ok, x_index (j := 0) (by omega) Tryz.underlying69 (fun w => Tryz.sizeOf3 w) (by omega), ?_⟩; (case ok => exact fun _ _ => rfl)) | (refine ⟨.int .i64 x, fun _ _ => trivial, x_load1 (fun w => Tryz.isAgg3 w) (fun w' hb β => by rw [Nat.mul_one]; exact c0 w' hb), ?_⟩)) | ((with_reducible show ∃ _, _); first | fail))
    all_goals first | (exfalso; omega) | (rw [if_pos (show x ≠ 0 by assumption)]; rfl) | (refine hI _ ⟨1, by omega, fun _ => by omega, fun h => by omega⟩ (by dsimp only; omega) (by ((with_reducible show wk _ _); repeat' (first | exact trivial | exact eqSV_refl _ | (refine eqI ?_) | (refine eqS ?_) | (with_reducible exact rfl) | apply And.intro | exact Nat.zero_lt_one | exact Nat.le_of_ble_eq_true rfl | (with_reducible assumption) | ((show (_ : Int) = _); (try dsimp only); omega) | ((show eqSV _ _); simp [eqSV, isB, bval, *]; done) | rfl))); done) | trace_state
  · have hz := hz1 (by omega)
    subst hz
    repeat' (first | ((with_reducible first | show wpS .. | show putD .. | show putW .. | show splitG .. | show wpQ .. | show wpD .. | show wpX .. | show expX .. | show stepX .. | show keepR .. | show wpY ..); conv => whnf) | ((with_reducible show RetN ..); refine retB fun β => ?_) | ((with_reducible show _ ∧ _); first | (refine ⟨fun h => absurd h (by first | omega | decide), fun _ => ?_⟩) | (refine ⟨fun _ => ?_, fun h => absurd h (by first | omega | decide)⟩) | (refine ⟨fun _ => ?_, fun _ => ?_⟩) | (apply And.intro; · kernel_rfl) | (apply And.intro; · (show inK _ _; unfold inK; omega)) | (apply And.intro; · (show (_ : Int) ≤ 9223372036854775807; (try simp only [lenS]); omega))) | ((with_reducible show AllBe ..); refine allBe fun βe => ?_; conv => whnf) | ((with_reducible show bothX ..); refine bothI ?_ ?_; conv => whnf) | (with_reducible exact trivial) | ((with_reducible show CallN ..); refine call_of env_ok rfl 1000 ?_) | ((with_reducible show XopN ..); refine xop_of env_ok rfl 1000 ?_) | ((with_reducible show CallX ..); first | fail) | ((with_reducible show OpX ..); first | fail) | ((with_reducible show ∃ _ : SV, _); first | (refine ⟨_, ?ok, x_index (j := 1) (by omega) Tryz.underlying69 (fun w => Tryz.sizeOf3 w) (by omega), ?_⟩; (case ok => exact fun _ _ => rfl)) | (refine ⟨.int .i64 y, fun _ _ => trivial, x_load1 (fun w => Tryz.isAgg3 w) (fun w' hb β => by rw [Nat.mul_one]; exact c1 w' hb), ?_⟩)) | ((with_reducible show ∃ _, _); first | fail))
    all_goals first | (exfalso; omega) | rfl | (refine hI _ ⟨2, by omega, fun _ => by omega, fun h => by omega⟩ (by dsimp only; omega) (by ((with_reducible show wk _ _); repeat' (first | exact trivial | exact eqSV_refl _ | (refine eqI ?_) | (refine eqS ?_) | (with_reducible exact rfl) | apply And.intro | exact Nat.zero_lt_one | exact Nat.le_of_ble_eq_true rfl | (with_reducible assumption) | ((show (_ : Int) = _); (try dsimp only); omega) | ((show eqSV _ _); simp [eqSV, isB, bval, *]; done) | rfl))); done) | trace_state
  · have h1 := hz1 (by omega)
    have h2 := hz2 (by omega)
    subst h1 h2
    repeat' (first | ((with_reducible first | show wpS .. | show putD .. | show putW .. | show splitG .. | show wpQ .. | show wpD .. | show wpX .. | show expX .. | show stepX .. | show keepR .. | show wpY ..); conv => whnf) | ((with_reducible show RetN ..); refine retB fun β => ?_) | ((with_reducible show _ ∧ _); first | (refine ⟨fun h => absurd h (by first | omega | decide), fun _ => ?_⟩) | (refine ⟨fun _ => ?_, fun h => absurd h (by first | omega | decide)⟩) | (refine ⟨fun _ => ?_, fun _ => ?_⟩) | (apply And.intro; · kernel_rfl) | (apply And.intro; · (show inK _ _; unfold inK; omega)) | (apply And.intro; · (show (_ : Int) ≤ 9223372036854775807; (try simp only [lenS]); omega))) | ((with_reducible show AllBe ..); refine allBe fun βe => ?_; conv => whnf) | ((with_reducible show bothX ..); refine bothI ?_ ?_; conv => whnf) | (with_reducible exact trivial) | ((with_reducible show CallN ..); refine call_of env_ok rfl 1000 ?_) | ((with_reducible show XopN ..); refine xop_of env_ok rfl 1000 ?_) | ((with_reducible show CallX ..); first | fail) | ((with_reducible show OpX ..); first | fail) | ((with_reducible show ∃ _ : SV, _); first | fail) | ((with_reducible show ∃ _, _); first | fail))
    all_goals first | (exfalso; omega) | rfl | trace_state
end Go.Proofs.YtdkhkfdenlabaaaGreatDoor
namespace Go.Proofs.YtdkhkfdenlabaaaGreatDoor
open Go.RowKit
open Sym
attribute [local irreducible] Calls Sym.AggEq ExP.nd ExP.dig ExP.upd ExP.writeF ExP.writeE
namespace Sym
theorem opx_ints2 {C : Ctx} {d : Nat} {ty : TypeId} {pos : String} {after : Array Edge} {gd : Option (Nat × Bool)} {fr : List (Nat × SV)} {rows : List (Nat × Bool × SRow)} {nx n : Nat} {K : St → Prop}
    {x y : Operand} {t e : TypeId} {p q : Int} {z0 : Value} (hd : Nat.blt d n = true) (hx : ev fr x = some (.int .i64 p)) (hy : ev fr y = some (.int .i64 q))
    (ht : C.P.underlying t = some (.slice e)) (hs : ∀ w, (sizeOf e).run C.P w = .ok 1 w) (hz : ∀ w, (zeroValue e).run C.P w = .ok z0 w) (hz1 : z0.cells = #[z0])
    (h : ∀ g, K ⟨(d, .any (.slice (some ⟨g, 0, none⟩) 2 2)) :: fr, (nx, true, .blob (OwnI e g 2 2 [.int .i64 p, .int .i64 q])) :: rows, nx + 1, n⟩) :
    OpX C ⟨some d, .buildSlice t 2 ⟨[(0, x), (1, y)]⟩, ty, pos, after, gd⟩ ⟨fr, rows, nx, n⟩ K :=
  opx_build [.int .i64 p, .int .i64 q] hd rfl (by unfold maxLen; omega) (fun β a w hsat => by
    have e1 := (ev_sound hsat hx).1
    have e2 := (ev_sound hsat hy).1
    have q0 : (underlying t).run C.P w = .ok (.slice e) w := by simp [underlying, ht]
    simp [Instr.buildSlice, q0, hs, hz, hz1, e1, e2, SV.den, fill2 (.int .i64 p) (.int .i64 q) rfl rfl, newRow, World.alloc_eq]) h
theorem Mem.slI {base : Nat} {w0 : Base} {rows : List (Nat × Bool × SRow)} {nx : Nat} {β : Nat → Nat} {w : World} (hm : Mem base w0 rows nx β w) (j : Nat) {o : Bool} {e : TypeId} {g n cap : Nat} {xs : List Value} (hj : get rows j = some (o, .blob (OwnI e g n cap xs))) : SlAt (some ⟨g, 0, none⟩) xs w := fun i v hi => by
  have h := (hm.row j _ _ hj).1
  have hg : β j = g := h.2.1
  exact ⟨_, rfl, by rw [← hg]; exact h.1, OwnI.cell h.2 i v hi⟩
end Sym
/-- values ordered for sorting: the number -/
def VaP.ordV (t o : VaP.VT) : Int := if VaP.bothV t o 4 ≠ 0 then 0 else if t.kind ≠ o.kind then Lib.compareInt (VaP.rankP t.kind) (VaP.rankP o.kind) else if t.kind = 0 then 0 else VaP.orI (VaP.cmpdV t o) (VaP.cmpL t.text o.text)
set_option maxRecDepth 100000 in
set_option maxHeartbeats 4000000 in
theorem vorder_any (t o : VaP.VT) (a b : Option Addr) (cap cap' : Nat) (w : World) (hw : XV w) (ht : VIn w t a cap) (ho : VIn w o b cap') (hF : VaP.bothV t o 4 = 0 → t.text.length ≤ 1000000 ∧ o.text.length ≤ 1000000) : Calls Tryz.prog 42 #[vtV t a cap, vtV o b cap'] w fun e w' => e = .returned (.tuple #[.int .i64 (VaP.ordV t o), .int .i64 (VaP.bothV t o 4)]) ∧ Below w.heap.size w w' := by
  have B := fun (w' : World) (h : Below w.heap.size w w') => vboth_any t o a b cap cap' 4 w' (hw.below h) (ht.lift h) (ho.lift h)
  have hC : VaP.ordV t o = if VaP.bothV t o 4 ≠ 0 then 0 else if t.kind ≠ o.kind then Lib.compareInt (VaP.rankP t.kind) (VaP.rankP o.kind) else if t.kind = 0 then 0 else VaP.orI (VaP.cmpdV t o) (VaP.cmpL t.text o.text) := rfl
  rw [hC]
  have D : VaP.bothV t o 4 = 0 → ∀ w', Below w.heap.size w w' → Calls Tryz.prog 91 #[vtV t a cap, vtV o b cap'] w' fun e w'' => e = .returned (.int .i64 (VaP.cmpdV t o)) ∧ Below w'.heap.size w' w'' := fun h w' hb => compared_any t o a b cap cap' w' (hw.below hb) ht.fit ho.fit (hF h).1 (hF h).2
  clear hC ht ho hF
  have R1 := fun (w' : World) => rank_any t a cap w'
  have R2 := fun (w' : World) => rank_any o b cap' w'
  have S := fun (w' : World) => cmpS_any t.text o.text w'
  have I := fun (w' : World) => (Tryz.cmp_Compare_int (VaP.rankP t.kind) (VaP.rankP o.kind) w').mono (fun e w'' (h : _ ∧ _) => (⟨h.1, by rw [h.2]; exact Below.refl _ _⟩ : e = .returned (.int .i64 (Lib.compareInt (VaP.rankP t.kind) (VaP.rankP o.kind))) ∧ Below w'.heap.size w' w''))
  generalize VaP.bothV t o 4 = E at *
  generalize VaP.cmpdV t o = DD at *
  generalize VaP.cmpL t.text o.text = SS at *
  generalize hII : Lib.compareInt (VaP.rankP t.kind) (VaP.rankP o.kind) = II at *
  have O := fun (g : Nat) (w' : World) (h : SlAt (some ⟨g, 0, none⟩) [.int .i64 DD, .int .i64 SS] w') => or_any (some ⟨g, 0, none⟩) 2 DD SS w' h
  generalize VaP.orI DD SS = OO at *
  obtain ⟨k, ⟨n1, n2⟩, tx, on, cd, rw', cl, its⟩ := t
  obtain ⟨k2, ⟨m1, m2⟩, tx2, on2, cd2, rw2, cl2, its2⟩ := o
  unfold vtV at *
  dsimp only at *
  generalize its.length = L1 at *
  generalize its2.length = L2 at *
  generalize hr1 : VaP.rankP k = r1 at *
  generalize hr2 : VaP.rankP k2 = r2 at *
  refine enter env_ok Tryz.func42 rfl Tryz.results42 Tryz.ntmps42 [] [] [.agg [.int .i64 k, .str n1, .str n2, .str tx, .bool on, .int .i64 cd, .int .i64 rw', .int .i64 cl, .any (.slice a L1 cap)], .agg [.int .i64 k2, .str m1, .str m2, .str tx2, .bool on2, .int .i64 cd2, .int .i64 rw2, .int .i64 cl2, .any (.slice b L2 cap')]] ⟨⟨trivial, trivial, trivial, trivial, trivial, trivial, trivial, trivial, rfl, trivial⟩, ⟨trivial, trivial, trivial, trivial, trivial, trivial, trivial, trivial, rfl, trivial⟩, trivial⟩ (Nat.le_of_ble_eq_true rfl) w _ 1000 ?_
  repeat' (first | ((with_reducible first | show wpS .. | show putD .. | show putW .. | show splitG .. | show wpQ .. | show wpD .. | show wpX .. | show expX .. | show stepX .. | show keepR .. | show wpY ..); conv => whnf) | ((with_reducible show RetN ..); refine retB fun β => ?_) | ((with_reducible show _ ∧ _); first | (refine ⟨fun h => absurd h (by first | omega | decide), fun _ => ?_⟩) | (refine ⟨fun _ => ?_, fun h => absurd h (by first | omega | decide)⟩) | (refine ⟨fun _ => ?_, fun _ => ?_⟩) | (apply And.intro; · kernel_rfl) | (apply And.intro; · (show inK _ _; unfold inK; omega)) | (apply And.intro; · (show (_ : Int) ≤ 9223372036854775807; (try simp only [lenS]); omega))) | ((with_reducible show AllBe ..); refine allBe fun βe => ?_; conv => whnf) | ((with_reducible show bothX ..); refine bothI ?_ ?_; conv => whnf) | (with_reducible exact trivial) | ((with_reducible show CallN ..); refine call_of env_ok rfl 1000 ?_) | ((with_reducible show XopN ..); refine xop_of env_ok rfl 1000 ?_) | ((with_reducible show CallX ..); first | (refine callX (.int .i64 E) (by kernel_rfl) rfl (trivial) (fun β w hm => B w hm.below) ?_) | (refine callX (.int .i64 r1) (by kernel_rfl) rfl (trivial) (fun β w hm => R1 w) ?_) | (refine callX (.int .i64 r2) (by kernel_rfl) rfl (trivial) (fun β w hm => R2 w) ?_) | (refine callX (.int .i64 II) (by kernel_rfl) rfl (trivial) (fun β w hm => I w) ?_) | (refine callX (.int .i64 DD) (by kernel_rfl) rfl (trivial) (fun β w hm => D (by omega) w hm.below) ?_) | (refine callX (.int .i64 SS) (by kernel_rfl) rfl (trivial) (fun β w hm => S w) ?_) | (refine callX (.int .i64 OO) (by kernel_rfl) rfl (trivial) (fun β w hm => O _ w (hm.slI 2 rfl)) ?_)) | ((with_reducible show OpX ..); first | (refine opx_ints2 rfl rfl rfl Tryz.underlying69 (fun w => Tryz.sizeOf3 w) (fun w => Tryz.zeroValue3 w) rfl (fun g => ?_))) | ((with_reducible show ∃ _ : SV, _); first | (refine ⟨.int .i64 r1, by kernel_rfl, trivial, fun β w hm => R1 w, ?_⟩) | (refine ⟨.int .i64 r2, by kernel_rfl, trivial, fun β w hm => R2 w, ?_⟩) | (refine ⟨.int .i64 II, by kernel_rfl, trivial, fun β w hm => I w, ?_⟩) | (refine ⟨.int .i64 SS, by kernel_rfl, trivial, fun β w hm => S w, ?_⟩) | (refine ⟨.int .i64 DD, by kernel_rfl, trivial, fun β w hm => D (by omega) w hm.below, ?_⟩)) | ((with_reducible show ∃ _, _); first | fail))
  all_goals first | (exfalso; omega) | (rw [if_pos (show E ≠ 0 by omega)]; rfl) | (have hE : E = 0 := by { omega }; rw [if_neg (fun h => h hE), if_pos (by assumption : ¬ k = k2), hE]; rfl) | (have hE : E = 0 := by { omega }; rw [if_neg (fun h => h hE), if_neg (by assumption : ¬ ¬ k = k2), if_pos (by assumption : k = 0), hE]; rfl) | (have hE : E = 0 := by { omega }; rw [if_neg (fun h => h hE), if_neg (by assumption : ¬ ¬ k = k2), if_neg (by assumption : ¬ k = 0), hE]; rfl) | trace_state
end Go.Proofs.YtdkhkfdenlabaaaGreatDoor
namespace Go.Proofs.YtdkhkfdenlabaaaGreatDoor
open Go.RowKit
namespace VaP
theorem sgn_anti (x y : ExP.Num) : ExP.sgn (ExP.sumN x (ExP.negN y)) = - ExP.sgn (ExP.sumN y (ExP.negN x)) := by
  obtain ⟨xm, xn, xd⟩ := x
  obtain ⟨ym, yn, yd⟩ := y
  unfold ExP.sgn ExP.sumN ExP.negN
  dsimp only
  generalize xn * yd = a
  generalize yn * xd = b
  cases xm <;> cases ym <;> simp <;> (repeat' split) <;> simp_all <;> omega
theorem unit_neg (a : Int) : unitP (-a) = - unitP a := by
  unfold unitP
  repeat' split
  all_goals omega
theorem cmpT_anti : ∀ (a b : List UInt8), cmpT a b = - cmpT b a
  | [], [] => by simp [cmpT]
  | [], y :: b => by simp [cmpT]
  | x :: a, [] => by simp [cmpT]
  | x :: a, y :: b => by
    unfold cmpT
    by_cases h : x = y
    · subst h
      simp only [ne_eq, not_true, if_false]
      exact cmpT_anti a b
    · rw [if_pos h, if_pos (Ne.symm h)]; omega
/-- a value without an error -/
structure Fine (t : VT) : Prop where
  k0 : 0 ≤ t.kind
  k5 : t.kind ≤ 5
  num : t.kind = 1 → ExP.readE t.num = 0
  num0 : t.kind ≠ 1 → t.num = ([], [])
  txt : t.text.length ≤ 32767
  txt0 : t.kind ≠ 2 → t.text = []
  on0 : t.kind ≠ 3 → t.on = false
  c0 : 0 ≤ t.code
  c8 : t.code ≤ 8
  code0 : t.kind ≠ 4 → t.code = 0
  its : t.kind ≠ 5 → t.rows = 0 ∧ t.cols = 0 ∧ t.items = []
theorem fine_of0 {t : VT} (h : vErr0 t = 0) : Fine t := by
  unfold vErr0 at h
  split at h
  · omega
  rename_i h1
  split at h
  · omega
  rename_i h2
  simp only [not_or, not_and] at h2
  obtain ⟨e1, e2, e3, e4, e5⟩ := h2
  have n1 : t.kind ≠ 1 → t.num = ([], []) := fun h => Classical.not_not.1 (e1 h)
  have n2 : t.kind ≠ 2 → t.text = [] := fun h => Classical.not_not.1 (e2 h)
  have n4 : t.kind ≠ 4 → t.code = 0 := fun h => Classical.not_not.1 (e4 h)
  refine ⟨by omega, by omega, fun hk => by rwa [if_pos hk] at h, n1, ?_, n2, fun hk => by simpa using e3 hk, ?_, ?_, n4, fun hk => ?_⟩
  · by_cases hk : t.kind = 2
    · rw [if_neg (by omega), if_pos hk] at h
      unfold txtE at h
      split at h
      · omega
      · omega
    · rw [n2 hk]; simp
  · by_cases hk : t.kind = 4
    · rw [if_neg (by omega), if_neg (by omega)] at h
      split at h
      · omega
      · rename_i h'; omega
    · rw [n4 hk]; omega
  · by_cases hk : t.kind = 4
    · rw [if_neg (by omega), if_neg (by omega)] at h
      split at h
      · omega
      · rename_i h'; omega
    · rw [n4 hk]; omega
  · obtain ⟨a, b, c⟩ := e5 hk
    exact ⟨Classical.not_not.1 a, Classical.not_not.1 b, Classical.not_not.1 c⟩
theorem fine_of {t : VT} (h : vErr t = 0) : Fine t := by
  by_cases h0 : vErr0 t = 0
  · exact fine_of0 h0
  · unfold vErr at h; rw [if_pos (.inl h0)] at h; exact absurd h h0
theorem read_01 : ExP.readE (([48], [49]) : ExP.Fr) = 0 := by decide +kernel
theorem fine_zero {k : Int} (h : 0 ≤ k ∧ k ≤ 3) : Fine (zeroK k) := by
  unfold zeroK
  split
  · unfold numF
    exact ⟨by show (0:Int) ≤ 1; omega, by show (1:Int) ≤ 5; omega, fun _ => read_01, fun h => absurd rfl h, by simp, fun _ => rfl, fun _ => rfl, by simp, by simp, fun _ => rfl, fun _ => ⟨rfl, rfl, rfl⟩⟩
  · refine ⟨h.1, by show k ≤ 5; omega, fun h => absurd h (by assumption), fun _ => rfl, by simp, fun _ => rfl, fun _ => rfl, by simp, by simp, fun _ => rfl, fun _ => ⟨rfl, rfl, rfl⟩⟩
theorem pair_of {t o : VT} (ht : Fine t) (ho : Fine o) (hk : t.kind = o.kind) : Pair t o where
  num := fun h => ⟨ht.num h, ho.num (hk ▸ h)⟩
  t1 := Nat.le_trans ht.txt (by omega)
  t2 := Nat.le_trans ho.txt (by omega)
  c1 := ⟨by have := ht.c0; omega, by have := ht.c8; omega⟩
  c2 := ⟨by have := ho.c0; omega, by have := ho.c8; omega⟩
/-- values of one kind -/
theorem one_eq {t o : VT} (ht : Fine t) (ho : Fine o) (hk : t.kind = o.kind) (h0 : t.kind ≠ 0) (h4 : t.kind ≤ 4) : cmpdV t o = oneP t o := by
  unfold cmpdV oneP
  by_cases h1 : t.kind = 1
  · rw [if_pos h1, if_pos h1]
    unfold cmpF
    rw [if_pos (by unfold ExP.bothE; rw [if_pos (ht.num h1)]; exact ho.num (hk ▸ h1))]
  · rw [if_neg h1, if_neg h1]
    by_cases h2 : t.kind = 2
    · rw [if_pos h2, if_pos h2, cmpL_unit]
    · rw [if_neg h2, if_neg h2]
      by_cases h3 : t.kind = 3
      · rw [if_pos h3, ht.code0 (by omega), ho.code0 (by omega)]
        cases t.on <;> cases o.on <;> simp [unitP]
      · rw [if_neg h3, ht.on0 h3, ho.on0 (by omega), cmpI_unit]
        simp
theorem one_anti {t o : VT} (ht : Fine t) (ho : Fine o) (hk : t.kind = o.kind) : oneP t o = - oneP o t := by
  unfold oneP
  rw [← hk]
  by_cases h1 : t.kind = 1
  · rw [if_pos h1, if_pos h1, sgn_anti]
  · rw [if_neg h1, if_neg h1]
    by_cases h2 : t.kind = 2
    · rw [if_pos h2, if_pos h2, cmpT_anti, unit_neg]
    · rw [if_neg h2, if_neg h2]
      by_cases ho : t.on = o.on
      · rw [if_neg (fun h => h ho), if_neg (fun h => h ho.symm), show t.code - o.code = -(o.code - t.code) by omega, unit_neg]
      · rw [if_pos ho, if_pos (fun h => ho h.symm)]
        revert ho
        cases t.on <;> cases o.on <;> simp
/-- two values compared as the reference does -/
def cmpR (t o : VT) : Int := if t.kind = 0 ∧ o.kind = 0 then 0 else if t.kind = 0 then - cmpR1 o t else cmpR1 t o
theorem like_self {t o : VT} (h : t.kind ≠ 0) : likeV t o = t := if_pos h
theorem like_zero {t o : VT} (h : t.kind = 0) (h1 : 1 ≤ o.kind) (h3 : o.kind ≤ 3) : likeV t o = zeroK o.kind := by
  unfold likeV zeroK
  rw [if_neg (fun h' => h' h)]
  by_cases h1' : o.kind = 1
  · rw [if_pos h1', if_pos h1']
  · rw [if_neg h1', if_neg h1', if_pos (by omega)]
theorem like_none {t o : VT} (h : o.kind = 0) : likeV t o = t := by
  unfold likeV
  split
  · rfl
  · rw [if_neg (by omega), if_neg (by omega)]
theorem both_split {t o : VT} {m : Int} (h : bothV t o m = 0) : vErr t = 0 ∧ vErr o = 0 ∧ t.kind ≤ m ∧ o.kind ≤ m := by
  unfold bothV at h
  split at h
  · rename_i h'; exact absurd h h'
  rename_i h1
  split at h
  · rename_i h'; exact absurd h h'
  rename_i h2
  split at h
  · omega
  rename_i h3
  have : max t.kind o.kind ≤ m := by omega
  exact ⟨Classical.not_not.1 h1, Classical.not_not.1 h2, by omega, by omega⟩
theorem rank_unit {a b : Int} (h : 1 ≤ a ∧ a ≤ 4) (h' : 1 ≤ b ∧ b ≤ 4) : Lib.compareInt (rankP a) (rankP b) = unitP (a - b) := by
  rw [cmpI_unit]
  unfold rankP
  congr 1
  repeat' split
  all_goals omega
theorem cmp_eq {t o : VT} (h : bothV t o 3 = 0) : cmpV t o = cmpR t o := by
  obtain ⟨h1, h2, k1, k2⟩ := both_split h
  have ht := fine_of h1
  have ho := fine_of h2
  have a0 := ht.k0
  have b0 := ho.k0
  have hL : cmpV t o = if (likeV t o).kind = 0 then 0 else if (likeV t o).kind ≠ (likeV o t).kind then Lib.compareInt (rankP (likeV t o).kind) (rankP (likeV o t).kind) else cmpdV (likeV t o) (likeV o t) := by
    unfold cmpV
    rw [if_neg (fun h' => h' h)]
  rw [hL]
  unfold cmpR
  by_cases ht0 : t.kind = 0
  · by_cases ho0 : o.kind = 0
    · rw [like_none ho0, if_pos ht0, if_pos ⟨ht0, ho0⟩]
    · have hz := fine_zero (k := o.kind) ⟨b0, k2⟩
      rw [like_zero ht0 (by omega) k2, like_self ho0, zeroK_kind, if_neg ho0, if_neg (fun h => h rfl), if_neg (fun h => ho0 h.2), if_pos ht0]
      unfold cmpR1
      rw [if_pos ht0, one_eq hz ho (zeroK_kind _) (by rw [zeroK_kind]; exact ho0) (by rw [zeroK_kind]; omega)]
      exact one_anti hz ho (zeroK_kind _)
  · rw [like_self ht0, if_neg ht0]
    by_cases ho0 : o.kind = 0
    · rw [like_zero ho0 (by omega) k1, zeroK_kind, if_neg (fun h => h rfl), if_neg (fun h => ht0 h.1), if_neg ht0]
      unfold cmpR1
      rw [if_pos ho0]
      exact one_eq ht (fine_zero ⟨a0, k1⟩) (zeroK_kind _).symm ht0 (by omega)
    · rw [like_self ho0]
      by_cases hk : t.kind = o.kind
      · rw [if_neg (fun h => h hk), if_neg (fun h => ht0 h.1), if_neg ht0]
        unfold cmpR1
        rw [if_neg ho0, if_neg (fun h => h hk)]
        exact one_eq ht ho hk ht0 (by omega)
      · rw [if_pos hk, if_neg (fun h => ht0 h.1), if_neg ht0]
        unfold cmpR1
        rw [if_neg ho0, if_pos hk]
        exact rank_unit ⟨by omega, by omega⟩ ⟨by omega, by omega⟩
theorem rank_at {k : Int} (h0 : 0 ≤ k) (h4 : k ≤ 4) : rankP k = if k = 0 then 4 else k - 1 := by
  rcases (by omega : k = 0 ∨ k = 1 ∨ k = 2 ∨ k = 3 ∨ k = 4) with rfl | rfl | rfl | rfl | rfl <;> rfl
theorem unit_lt {a : Int} (h : a < 0) : unitP a = -1 := if_pos h
theorem unit_gt {a : Int} (h : 0 < a) : unitP a = 1 := by unfold unitP; rw [if_neg (by omega), if_pos h]
theorem rank_place {a b : Int} (ha : 0 ≤ a) (ha4 : a ≤ 4) (hb : 0 ≤ b) (hb4 : b ≤ 4) (h : a ≠ b) : unitP (rankP a - rankP b) = unitP (placeP a - placeP b) := by
  rw [rank_at ha ha4, rank_at hb hb4]
  unfold placeP
  by_cases h1 : a = 0
  · rw [if_pos h1, if_pos h1, if_neg (by omega), if_neg (by omega), unit_gt (by omega), unit_gt (by omega)]
  · by_cases h2 : b = 0
    · rw [if_neg h1, if_neg h1, if_pos h2, if_pos h2, unit_lt (by omega), unit_lt (by omega)]
    · rw [if_neg h1, if_neg h1, if_neg h2, if_neg h2]
      congr 1; omega
theorem ord_eq {t o : VT} (h : bothV t o 4 = 0) : ordV t o = ordR t o := by
  obtain ⟨h1, h2, k1, k2⟩ := both_split h
  have ht := fine_of h1
  have ho := fine_of h2
  have a0 := ht.k0
  have b0 := ho.k0
  have hL : ordV t o = if t.kind ≠ o.kind then Lib.compareInt (rankP t.kind) (rankP o.kind) else if t.kind = 0 then 0 else orI (cmpdV t o) (cmpL t.text o.text) := by
    unfold ordV
    rw [if_neg (fun h' => h' h)]
  rw [hL]
  unfold ordR
  by_cases hk : t.kind = o.kind
  · simp only [if_neg (show ¬ (t.kind ≠ o.kind) from fun h => h hk)]
    by_cases ht0 : t.kind = 0
    · simp only [if_pos ht0]
    · simp only [if_neg ht0]
      rw [one_eq ht ho hk ht0 k1, cmpL_unit]
      unfold orI
      by_cases hc : oneP t o = 0
      · rw [if_neg (fun h => h hc)]
        by_cases h2' : t.kind = 2
        · rw [if_neg (fun h => h.elim (fun h => h hc) (fun h => h h2'))]
        · rw [if_pos (.inr h2'), ht.txt0 h2', ho.txt0 (by omega), hc]; rfl
      · rw [if_pos hc, if_pos (.inl hc)]
  · simp only [if_pos (show t.kind ≠ o.kind from hk)]
    rw [cmpI_unit]
    exact rank_place a0 k1 b0 k2 hk
end VaP
end Go.Proofs.YtdkhkfdenlabaaaGreatDoor
namespace Go.Proofs.YtdkhkfdenlabaaaGreatDoor
open Go.RowKit
open Sym
attribute [local irreducible] Calls Sym.AggEq ExP.nd ExP.dig ExP.upd ExP.writeF ExP.writeE VaP.ftext
theorem quote_any (s : List UInt8) (w : World) (h : s.head? ≠ some 39) : Calls Tryz.prog 54 #[.string (bstr s), .string (bstr [39])] w fun e w' => e = .returned (.tuple #[.string (bstr s), .bool false]) ∧ Below w.heap.size w w' := by
  refine (Tryz.strings_CutPrefix (bstr s) (bstr [39]) w).mono ?_
  rintro e w' ⟨h', rfl⟩
  refine ⟨?_, Below.refl _ _⟩
  rw [h', show (bstr s).data.toList = s from rfl, show (bstr [39]).data.toList = [39] from rfl]
  have : Lib.hasPrefix s [39] = false := by
    unfold Lib.hasPrefix
    cases s with
    | nil => rfl
    | cons d r =>
      have : ¬ (39 : UInt8) = d := fun e => h (by rw [← e]; rfl)
      simp [List.isPrefixOf, this]
  unfold Lib.trimPrefix
  rw [this, if_neg Bool.false_ne_true]
  rfl
def faultS : List SV := [.str (VaP.ftext 0), .str (VaP.ftext 1), .str (VaP.ftext 2), .str (VaP.ftext 3), .str (VaP.ftext 4), .str (VaP.ftext 5), .str (VaP.ftext 6), .str (VaP.ftext 7), .str (VaP.ftext 8)]
theorem faultS_get (i : Nat) (h : i < 9) : faultS[i]? = some (.str (VaP.ftext i)) := by
  rcases i with _ | _ | _ | _ | _ | _ | _ | _ | _ | i
  all_goals first | (exfalso; omega) | rfl
theorem faultS_oks (n : Nat) : SV.oks n faultS := ⟨trivial, trivial, trivial, trivial, trivial, trivial, trivial, trivial, trivial, trivial⟩
theorem faultS_cell (w : World) (hw : XV w) : ∀ w', Below w.heap.size w w' → ∀ (β : Nat → Nat) (j : Nat) (v : Value), (SV.dens β faultS)[j]? = some v → w'.cell? ((⟨0, 0, none⟩ : Addr).add j) = some v := fun w' hb β j v hv => by
  have hj : j < 9 := by
    have := (List.getElem?_eq_some_iff.1 hv).1
    rwa [SV.dens_len] at this
  have h := (hw.below hb).flt j hj
  rw [SV.dens_get, faultS_get j hj] at hv
  cases hv
  have e : (⟨0, 0, none⟩ : Addr).add j = ⟨0, j, none⟩ := by simp [Addr.add]; omega
  rw [e]; exact h
abbrev readF : List SV := [.fn 56 [], .fn 57 [], .fn 58 [], .fn 59 [], .fn 60 []]
theorem readF_cells : ∀ β, ∀ u ∈ SV.dens β readF, u.cells = #[u] := by
  intro β u hu
  simp only [readF, SV.dens, SV.den, List.mem_cons, List.not_mem_nil, or_false] at hu
  rcases hu with rfl | rfl | rfl | rfl | rfl <;> rfl
set_option maxRecDepth 100000 in
set_option maxHeartbeats 4000000 in
theorem enter_num (s L F1 F2 : List UInt8) (w : World) (hw : XV w) (hs : s ≠ []) (hT : VaP.txtE s = 0) (hl : s.length ≤ 9223372036854775807) (hq : s.head? ≠ some 39)
    (hL : ∀ w', Below w.heap.size w w' → Calls Tryz.prog 55 #[.string (bstr s)] w' fun e w'' => e = .returned (.string (bstr L)) ∧ Below w'.heap.size w' w'')
    (hL1 : L ≠ [116, 114, 117, 101]) (hL2 : L ≠ [102, 97, 108, 115, 101]) (hf : ∀ i, 1 ≤ i → i < 9 → s ≠ VaP.ftext i)
    (hN : ∀ w', Below w.heap.size w w' → Calls Tryz.prog 56 #[.string (bstr s)] w' fun e w'' => e = .returned (.tuple #[frV (F1, F2), .bool true]) ∧ Below w'.heap.size w' w'')
    (hV : ∀ w', Below w.heap.size w w' → Calls Tryz.prog 19 #[frV (F1, F2)] w' (IsV (VaP.numF (F1, F2)) w')) :
    Calls Tryz.prog 11 #[.string (bstr s)] w (IsV (VaP.numF (F1, F2)) w) := by
  have T := fun (w' : World) (h : Below w.heap.size w w') => vtext_any s w' (hw.below h) hl
  rw [hT] at T
  have Q := fun (w' : World) => quote_any s w' hq
  have hfc := faultS_cell w hw
  have hfg := faultS_get
  refine enter env_ok Tryz.func11 rfl Tryz.results11 Tryz.ntmps11 [] [] [.str s] (by simp [SV.oks, SV.ok]) (Nat.le_of_ble_eq_true rfl) w _ 1000 ?_
  repeat' (first | ((with_reducible first | show wpS .. | show putD .. | show putW .. | show splitG .. | show wpQ .. | show wpD .. | show wpX .. | show expX .. | show stepX .. | show keepR .. | show wpY ..); conv => whnf) | ((with_reducible show RetN ..); refine retB fun β => ?_) | ((with_reducible show _ ∧ _); first | (refine ⟨fun h => absurd h (by first | omega | decide), fun _ => ?_⟩) | (refine ⟨fun _ => ?_, fun h => absurd h (by first | omega | decide)⟩) | (refine ⟨fun _ => ?_, fun _ => ?_⟩) | (apply And.intro; · kernel_rfl) | (apply And.intro; · (show inK _ _; unfold inK; omega)) | (apply And.intro; · (show (_ : Int) ≤ 9223372036854775807; (try simp only [lenS]); omega))) | ((with_reducible show AllBe ..); refine allBe fun βe => ?_; conv => whnf) | ((with_reducible show bothX ..); refine bothI ?_ ?_; conv => whnf) | (with_reducible exact trivial) | ((with_reducible show CallN ..); refine call_of env_ok rfl 1000 ?_) | ((with_reducible show XopN ..); refine xop_of env_ok rfl 1000 ?_) | ((with_reducible show CallX ..); first | (refine callX (.int .i64 0) (by kernel_rfl) rfl (trivial) (fun β w hm => T w hm.below) ?_) | (refine callX (.tup [.str s, .lit false]) (by kernel_rfl) rfl (⟨trivial, trivial, trivial⟩) (fun β w hm => Q w) ?_) | (refine callX (.str L) (by kernel_rfl) rfl (trivial) (fun β w hm => hL w hm.below) ?_)) | ((with_reducible show OpX ..); first | fail) | ((with_reducible show ∃ _ : SV, _); first | (refine ⟨.agg faultS, ?ok, x_loadAgg (vs := faultS) (fun w => Tryz.isAgg81 w) (fun w => Tryz.sizeOf81 w) hfc, ?_⟩; (case ok => exact fun _ _ => faultS_oks _))) | ((with_reducible show ∃ _, _); first | fail))
  all_goals first | (exfalso; contradiction) | skip
  refine loop env_ok rfl (T := {i : Nat // i ≤ 9}) (fun t => ⟨[(0, .str s), (2, .ptr 0 0), (38, .agg faultS), (39, .int .i64 (t.1 : Nat))], [(0, true, .cells 28 [.int .i64 0, .str [], .str [], .str [], .lit false, .int .i64 0, .int .i64 0, .int .i64 0, .any (.slice none 0 0)])], 1, 69⟩) (fun t => 9 - t.1) ⟨0, Nat.zero_le _⟩ 1000 [] [] (fun _ => Nat.zero_le _) (by ((with_reducible show wk _ _); repeat' (first | exact trivial | exact eqSV_refl _ | (refine eqI ?_) | (refine eqS ?_) | (with_reducible exact rfl) | apply And.intro | exact Nat.zero_lt_one | exact Nat.le_of_ble_eq_true rfl | (with_reducible assumption) | ((show (_ : Int) = _); (try dsimp only); omega) | ((show eqSV _ _); simp [eqSV, isB, bval, *]; done) | rfl))) (fun t I hI => ?_)
  obtain ⟨i, hi⟩ := t
  dsimp only
  by_cases hlt : i < 9
  · have hg := hfg i hlt
    have hne := hf i
    generalize VaP.ftext i = X at *
    repeat' (first | ((with_reducible first | show wpS .. | show putD .. | show putW .. | show splitG .. | show wpQ .. | show wpD .. | show wpX .. | show expX .. | show stepX .. | show keepR .. | show wpY ..); conv => whnf) | ((with_reducible show RetN ..); refine retB fun β => ?_) | ((with_reducible show _ ∧ _); first | (refine ⟨fun h => absurd h (by first | omega | decide), fun _ => ?_⟩) | (refine ⟨fun _ => ?_, fun h => absurd h (by first | omega | decide)⟩) | (refine ⟨fun _ => ?_, fun _ => ?_⟩) | (apply And.intro; · kernel_rfl) | (apply And.intro; · (show inK _ _; unfold inK; omega)) | (apply And.intro; · (show (_ : Int) ≤ 9223372036854775807; (try simp only [lenS]); omega))) | ((with_reducible show AllBe ..); refine allBe fun βe => ?_; conv => whnf) | ((with_reducible show bothX ..); refine bothI ?_ ?_; conv => whnf) | (with_reducible exact trivial) | ((with_reducible show CallN ..); refine call_of env_ok rfl 1000 ?_) | ((with_reducible show XopN ..); refine xop_of env_ok rfl 1000 ?_) | ((with_reducible show CallX ..); first | fail) | ((with_reducible show OpX ..); first | fail) | ((with_reducible show ∃ _ : SV, _); first | (refine ⟨.str X, ?ok, x_indexAgg (j := i) Tryz.underlying81 (fun w => Tryz.sizeOf9 w) (fun w => Tryz.isAgg9 w) hlt hg, ?_⟩; (case ok => exact fun _ _ => trivial))) | ((with_reducible show ∃ _, _); first | fail))
    all_goals first | (exfalso; omega) | (exfalso; exact hne (by omega) hlt (by assumption)) | (refine hI _ ⟨i + 1, by omega⟩ (by dsimp only; omega) (by ((with_reducible show wk _ _); repeat' (first | exact trivial | exact eqSV_refl _ | (refine eqI ?_) | (refine eqS ?_) | (with_reducible exact rfl) | apply And.intro | exact Nat.zero_lt_one | exact Nat.le_of_ble_eq_true rfl | (with_reducible assumption) | ((show (_ : Int) = _); (try dsimp only); omega) | ((show eqSV _ _); simp [eqSV, isB, bval, *]; done) | rfl))); done) | trace_state
  · repeat' (first | ((with_reducible first | show wpS .. | show putD .. | show putW .. | show splitG .. | show wpQ .. | show wpD .. | show wpX .. | show expX .. | show stepX .. | show keepR .. | show wpY ..); conv => whnf) | ((with_reducible show RetN ..); refine retB fun β => ?_) | ((with_reducible show _ ∧ _); first | (refine ⟨fun h => absurd h (by first | omega | decide), fun _ => ?_⟩) | (refine ⟨fun _ => ?_, fun h => absurd h (by first | omega | decide)⟩) | (refine ⟨fun _ => ?_, fun _ => ?_⟩) | (apply And.intro; · kernel_rfl) | (apply And.intro; · (show inK _ _; unfold inK; omega)) | (apply And.intro; · (show (_ : Int) ≤ 9223372036854775807; (try simp only [lenS]); omega))) | ((with_reducible show AllBe ..); refine allBe fun βe => ?_; conv => whnf) | ((with_reducible show bothX ..); refine bothI ?_ ?_; conv => whnf) | (with_reducible exact trivial) | ((with_reducible show CallN ..); refine call_of env_ok rfl 1000 ?_) | ((with_reducible show XopN ..); refine xop_of env_ok rfl 1000 ?_) | ((with_reducible show CallX ..); first | fail) | ((with_reducible show OpX ..); first | fail) | ((with_reducible show ∃ _ : SV, _); first | (refine ⟨.agg readF, ?ok, x_buildArr rfl Tryz.underlying83 (fun w => Tryz.sizeOf82 w) (fun w => Tryz.zeroValue83 w) rfl readF_cells, ?_⟩; (case ok => exact fun _ h => h))) | ((with_reducible show ∃ _, _); first | fail))
    all_goals first | (exfalso; omega) | skip
    refine loop env_ok rfl (T := Unit) (fun t => ⟨[(0, .str s), (2, .ptr 0 0), (53, .agg readF), (54, .int .i64 0)], [(0, true, .cells 28 [.int .i64 0, .str [], .str [], .str [], .lit false, .int .i64 0, .int .i64 0, .int .i64 0, .any (.slice none 0 0)])], 1, 69⟩) (fun t => 0) () 1000 [] [] (fun _ => Nat.zero_le _) (by ((with_reducible show wk _ _); repeat' (first | exact trivial | exact eqSV_refl _ | (refine eqI ?_) | (refine eqS ?_) | (with_reducible exact rfl) | apply And.intro | exact Nat.zero_lt_one | exact Nat.le_of_ble_eq_true rfl | (with_reducible assumption) | ((show (_ : Int) = _); (try dsimp only); omega) | ((show eqSV _ _); simp [eqSV, isB, bval, *]; done) | rfl))) (fun t I hI => ?_)
    repeat' (first | ((with_reducible first | show wpS .. | show putD .. | show putW .. | show splitG .. | show wpQ .. | show wpD .. | show wpX .. | show expX .. | show stepX .. | show keepR .. | show wpY ..); conv => whnf) | ((with_reducible show RetN ..); refine retB fun β => ?_) | ((with_reducible show _ ∧ _); first | (refine ⟨fun h => absurd h (by first | omega | decide), fun _ => ?_⟩) | (refine ⟨fun _ => ?_, fun h => absurd h (by first | omega | decide)⟩) | (refine ⟨fun _ => ?_, fun _ => ?_⟩) | (apply And.intro; · kernel_rfl) | (apply And.intro; · (show inK _ _; unfold inK; omega)) | (apply And.intro; · (show (_ : Int) ≤ 9223372036854775807; (try simp only [lenS]); omega))) | ((with_reducible show AllBe ..); refine allBe fun βe => ?_; conv => whnf) | ((with_reducible show bothX ..); refine bothI ?_ ?_; conv => whnf) | (with_reducible exact trivial) | ((with_reducible show CallN ..); refine call_of env_ok rfl 1000 ?_) | ((with_reducible show XopN ..); refine xop_of env_ok rfl 1000 ?_) | ((with_reducible show CallX ..); first | (refine callX (.tup [.agg [.str F1, .str F2], .lit true]) (by kernel_rfl) rfl (⟨⟨trivial, trivial, trivial⟩, trivial, trivial⟩) (fun β w hm => hN w hm.below) ?_) | (refine callX (.agg [.int .i64 1, .str F1, .str F2, .str [], .lit false, .int .i64 0, .int .i64 0, .int .i64 0, .any (.slice none 0 0)]) (by kernel_rfl) rfl (⟨trivial, trivial, trivial, trivial, trivial, trivial, trivial, trivial, rfl, trivial⟩) (fun β w hm => hV w hm.below) ?_)) | ((with_reducible show OpX ..); first | fail) | ((with_reducible show ∃ _ : SV, _); first | (refine ⟨.fn 56 [], ?ok, x_indexAgg (j := 0) Tryz.underlying83 (fun w => Tryz.sizeOf82 w) (fun w => Tryz.isAgg82 w) (by omega) rfl, ?_⟩; (case ok => exact fun _ _ => trivial))) | ((with_reducible show ∃ _, _); first | fail))
    all_goals first | (exfalso; omega) | rfl | trace_state
end Go.Proofs.YtdkhkfdenlabaaaGreatDoor
namespace Go.Proofs.YtdkhkfdenlabaaaGreatDoor
open Go.RowKit
open Sym
attribute [local irreducible] Calls Sym.AggEq ExP.nd ExP.dig ExP.upd ExP.writeF ExP.writeE
end Go.Proofs.YtdkhkfdenlabaaaGreatDoor
namespace Go.Proofs.YtdkhkfdenlabaaaGreatDoor
open Go.RowKit
open Sym
attribute [local irreducible] Calls Sym.AggEq ExP.nd ExP.dig ExP.upd ExP.writeF ExP.writeE
end Go.Proofs.YtdkhkfdenlabaaaGreatDoor
namespace Go.Proofs.YtdkhkfdenlabaaaGreatDoor
open Go.RowKit
open Sym
theorem ExP.write_25 : ExP.writeE ⟨false, 25, 1⟩ = 0 ∧ ExP.writeE ⟨false, 25, 100⟩ = 0 ∧ ExP.writeF ⟨false, 25, 100⟩ = ([49], [52]) := by
  have h25 : ExP.nd 10 25 ≤ 300 := Nat.le_trans (ExP.nd_le (n := 2) (by omega) (by decide)) (by omega)
  have h100 : ExP.nd 10 100 ≤ 300 := Nat.le_trans (ExP.nd_le (n := 3) (by omega) (by decide)) (by omega)
  have h1 : ExP.nd 10 1 ≤ 300 := by rw [ExP.nd_one (by omega)]; omega
  have a := (ExP.write_ok (x := ⟨false, 25, 1⟩) rfl Nat.one_pos h25 h1).1
  have b := (ExP.write_ok (x := ⟨false, 25, 100⟩) rfl (by decide) h25 h100).1
  refine ⟨a, b, ?_⟩
  have hn : ¬ (⟨false, 25, 100⟩ : ExP.Num).n = 0 := by decide
  have ho : ¬ ExP.overP ⟨false, 25, 100⟩ := fun h => by
    unfold ExP.writeE at b
    rw [if_neg hn, if_pos h] at b; cases b
  unfold ExP.writeF
  rw [if_neg hn, if_neg ho]
  have e1 : ExP.redN ⟨false, 25, 100⟩ = 1 := by decide
  have e2 : ExP.redD ⟨false, 25, 100⟩ = 4 := by decide
  rw [e1, e2, Lib.decDigits_one (by omega), Lib.decDigits_one (by omega)]
  rfl
theorem VaP.num_25 : VaP.numV [50, 53, 37] = some ⟨false, 25, 100⟩ := by
  have h1 : VaP.numV [50, 53, 37] = VaP.numG [50, 53] true := by kernel_rfl
  have h2 : ExP.parE [50, 53] = 0 := by decide +kernel
  have h3 : ExP.decN [50, 53] = ⟨false, 25, 1⟩ := by rfl
  have h4 : ExP.scaleN ⟨false, 25, 1⟩ (-2) = ⟨false, 25, 100⟩ := by rfl
  obtain ⟨a, b, -⟩ := ExP.write_25
  rw [h1]
  unfold VaP.numG
  rw [h2, h3, h4, a, b]
  simp
theorem VaP.txt_25 : VaP.txtE [50, 53, 37] = 0 := by decide +kernel
section
attribute [local irreducible] Calls Sym.AggEq ExP.nd ExP.dig ExP.upd ExP.writeF ExP.writeE VaP.ftext
theorem enter_25 (w : World) (hw : XV w) : Calls Tryz.prog 11 #[.string (bstr [50, 53, 37])] w (IsV (VaP.numF ([49], [52])) w) := by
  obtain ⟨F, hF, hN⟩ := number_any [50, 53, 37] w hw (by decide) (by decide)
  have e := hF _ VaP.num_25
  rw [ExP.write_25.2.2] at e
  subst e
  rw [VaP.num_25] at hN
  have hE : ExP.readE (([49], [52]) : ExP.Fr) = 0 := by decide +kernel
  refine enter_num [50, 53, 37] [50, 53, 37] [49] [52] w hw (by decide) VaP.txt_25 (by decide) (by decide) (fun w' h => vlower_small _ w' (hw.below h).pos (by decide) (by decide)) (by decide) (by decide) ?_ hN (fun w' h => ?_)
  · intro i h1 h2
    rcases i with _ | _ | _ | _ | _ | _ | _ | _ | _ | i
    all_goals first | (exfalso; omega) | (unfold VaP.ftext; decide)
  · have := vnumber_any ([49], [52]) w' (hw.below h) (by decide) (by decide)
    rwa [if_pos hE] at this
set_option maxRecDepth 100000 in
theorem values_any (w : World) (hw : XV w) : Calls Tryz.prog 9 #[] w fun e w' => e = .returned (.bool true) ∧ Below w.heap.size w w' := by
  have N := fun (w' : World) (h : Below w.heap.size w w') => enter_25 w' (hw.below h)
  have S := fun (w' : World) => same_num ([49], [52]) w'
  refine enter env_ok Tryz.func9 rfl Tryz.results9 Tryz.ntmps9 [] [] [] trivial (Nat.le_of_ble_eq_true rfl) w _ 1000 ?_
  repeat' (first | ((with_reducible first | show wpS .. | show putD .. | show putW .. | show splitG .. | show wpQ .. | show wpD .. | show wpX .. | show expX .. | show stepX .. | show keepR .. | show wpY ..); conv => whnf) | ((with_reducible show RetN ..); refine retB fun β => ?_) | ((with_reducible show _ ∧ _); first | (refine ⟨fun h => absurd h (by first | omega | decide), fun _ => ?_⟩) | (refine ⟨fun _ => ?_, fun h => absurd h (by first | omega | decide)⟩) | (refine ⟨fun _ => ?_, fun _ => ?_⟩) | (apply And.intro; · kernel_rfl) | (apply And.intro; · (show inK _ _; unfold inK; omega)) | (apply And.intro; · (show (_ : Int) ≤ 9223372036854775807; (try simp only [lenS]); omega))) | ((with_reducible show AllBe ..); refine allBe fun βe => ?_; conv => whnf) | ((with_reducible show bothX ..); refine bothI ?_ ?_; conv => whnf) | (with_reducible exact trivial) | ((with_reducible show CallN ..); refine call_of env_ok rfl 1000 ?_) | ((with_reducible show XopN ..); refine xop_of env_ok rfl 1000 ?_) | ((with_reducible show CallX ..); first | (refine callX (.agg [.int .i64 1, .str [49], .str [52], .str [], .lit false, .int .i64 0, .int .i64 0, .int .i64 0, .any (.slice none 0 0)]) (by kernel_rfl) rfl (⟨trivial, trivial, trivial, trivial, trivial, trivial, trivial, trivial, rfl, trivial⟩) (fun β w hm => N w hm.below) ?_) | (refine callX (.lit true) (by kernel_rfl) rfl (trivial) (fun β w hm => S w) ?_)) | ((with_reducible show OpX ..); first | fail) | ((with_reducible show ∃ _ : SV, _); first | fail) | ((with_reducible show ∃ _, _); first | fail))
  all_goals first | rfl | trace_state
end
end Go.Proofs.YtdkhkfdenlabaaaGreatDoor
