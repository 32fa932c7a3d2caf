/- Values, the reference: Compare and Order. A walk that reckons: an array of two structs. Values, the program: two values checked. Values, the program: Compare. -/
import Derived.Test.YtdkhkfdenlabaaaGreatDoorKGV
set_option linter.unusedSimpArgs false
set_option linter.unusedVariables false
namespace Go.Proofs.YtdkhkfdenlabaaaGreatDoor
open Go.RowKit
open Sym
attribute [local irreducible] Calls Sym.AggEq ExP.nd ExP.dig ExP.upd ExP.writeF ExP.writeE
/-- two values that can be compared -/
structure VaP.Pair (t o : VaP.VT) : Prop where
  num : t.kind = 1 → ExP.readE t.num = 0 ∧ ExP.readE o.num = 0
  t1 : t.text.length ≤ 1000000
  t2 : o.text.length ≤ 1000000
  c1 : -1000000 ≤ t.code ∧ t.code ≤ 1000000
  c2 : -1000000 ≤ o.code ∧ o.code ≤ 1000000
theorem rone_any (t o : VaP.VT) (a b : Option Addr) (cap cap' : Nat) (w : World) (hw0 : 0 < w.heap.size) (h : VaP.Pair t o) : Calls Tryz.prog 95 #[vtV t a cap, vtV o b cap'] w fun e w' => e = .returned (.int .i64 (VaP.oneP t o)) ∧ Below w.heap.size w w' := by
  by_cases h1 : t.kind = 1
  · exact rone_num t o a b cap cap' w h1 hw0 (h.num h1).1 (h.num h1).2
  · by_cases h2 : t.kind = 2
    · exact rone_text t o a b cap cap' w h2 h.t1 h.t2
    · exact rone_other t o a b cap cap' w h1 h2 h.c1 h.c2
/-- the place of a value in order -/
def VaP.placeP (k : Int) : Int := if k = 0 then 9 else k
set_option maxRecDepth 100000 in
theorem rplace_any (t : VaP.VT) (a : Option Addr) (cap : Nat) (w : World) : Calls Tryz.prog 96 #[vtV t a cap] w fun e w' => e = .returned (.int .i64 (VaP.placeP t.kind)) ∧ Below w.heap.size w w' := by
  unfold VaP.placeP
  obtain ⟨k, ⟨n1, n2⟩, tx, on, cd, rw', cl, its⟩ := t
  unfold vtV
  dsimp only
  refine enter env_ok Tryz.func96 rfl Tryz.results96 Tryz.ntmps96 [] [] [.agg [.int .i64 k, .str n1, .str n2, .str tx, .bool on, .int .i64 cd, .int .i64 rw', .int .i64 cl, .any (.slice a its.length cap)]] ⟨⟨trivial, trivial, trivial, trivial, trivial, trivial, trivial, trivial, rfl, trivial⟩, trivial⟩ (Nat.le_of_ble_eq_true rfl) w _ 1000 ?_
  repeat' (first | ((with_reducible first | show wpS .. | show putD .. | show putW .. | show splitG .. | show wpQ .. | show wpD .. | show wpX .. | show expX .. | show stepX .. | show keepR .. | show wpY ..); conv => whnf) | ((with_reducible show RetN ..); refine retB fun β => ?_) | ((with_reducible show _ ∧ _); first | (refine ⟨fun h => absurd h (by first | omega | decide), fun _ => ?_⟩) | (refine ⟨fun _ => ?_, fun h => absurd h (by first | omega | decide)⟩) | (refine ⟨fun _ => ?_, fun _ => ?_⟩) | (apply And.intro; · kernel_rfl) | (apply And.intro; · (show inK _ _; unfold inK; omega)) | (apply And.intro; · (show (_ : Int) ≤ 9223372036854775807; (try simp only [lenS]); omega))) | ((with_reducible show AllBe ..); refine allBe fun βe => ?_; conv => whnf) | ((with_reducible show bothX ..); refine bothI ?_ ?_; conv => whnf) | (with_reducible exact trivial) | ((with_reducible show CallN ..); refine call_of env_ok rfl 1000 ?_) | ((with_reducible show XopN ..); refine xop_of env_ok rfl 1000 ?_) | ((with_reducible show CallX ..); first | fail) | ((with_reducible show OpX ..); first | fail) | ((with_reducible show ∃ _ : SV, _); first | fail) | ((with_reducible show ∃ _, _); first | fail))
  all_goals first | (rw [if_pos (by assumption : k = 0)]; rfl) | (rw [if_neg (by assumption : ¬ k = 0)]; rfl) | trace_state
/-- nothing, as a value of a kind -/
def VaP.zeroK (k : Int) : VaP.VT := if k = 1 then VaP.numF ([48], [49]) else ⟨k, ([], []), [], false, 0, 0, 0, []⟩
theorem VaP.zeroK_kind (k : Int) : (VaP.zeroK k).kind = k := by
  unfold VaP.zeroK
  split
  · rename_i h; exact h.symm
  · rfl
/-- a value held against another one, the first not nothing -/
def VaP.cmpR1 (t o : VaP.VT) : Int := if o.kind = 0 then VaP.oneP t (VaP.zeroK t.kind) else if t.kind ≠ o.kind then VaP.unitP (t.kind - o.kind) else VaP.oneP t o
section
variable (t o : VaP.VT) (a b : Option Addr) (cap cap' : Nat) (w : World) (hw0 : 0 < w.heap.size)
include hw0
set_option maxRecDepth 100000 in
set_option maxHeartbeats 4000000 in
theorem rcompare_zero (hk : t.kind ≠ 0) (ho : o.kind = 0) (h : VaP.Pair t (VaP.zeroK t.kind)) : Calls Tryz.prog 43 #[vtV t a cap, vtV o b cap'] w fun e w' => e = .returned (.int .i64 (VaP.cmpR1 t o)) ∧ Below w.heap.size w w' := by
  have O := fun (w' : World) (hb : Below w.heap.size w w') => rone_any t (VaP.zeroK t.kind) a none cap 0 w' (Nat.lt_of_lt_of_le hw0 hb.size) h
  unfold VaP.cmpR1
  rw [if_pos ho]
  generalize VaP.oneP t (VaP.zeroK t.kind) = R at *
  clear h
  obtain ⟨k, ⟨n1, n2⟩, tx, on, cd, rw', cl, its⟩ := t
  obtain ⟨k2, ⟨m1, m2⟩, tx2, on2, cd2, rw2, cl2, its2⟩ := o
  unfold vtV VaP.zeroK VaP.numF at *
  dsimp only at *
  subst ho
  by_cases h1 : k = 1
  · subst h1
    simp only [if_true] at O
    refine enter env_ok Tryz.func43 rfl Tryz.results43 Tryz.ntmps43 [] [] [.agg [.int .i64 1, .str n1, .str n2, .str tx, .bool on, .int .i64 cd, .int .i64 rw', .int .i64 cl, .any (.slice a its.length cap)], .agg [.int .i64 0, .str m1, .str m2, .str tx2, .bool on2, .int .i64 cd2, .int .i64 rw2, .int .i64 cl2, .any (.slice b its2.length cap')]] ⟨⟨trivial, trivial, trivial, trivial, trivial, trivial, trivial, trivial, rfl, trivial⟩, ⟨trivial, trivial, trivial, trivial, trivial, trivial, trivial, trivial, rfl, trivial⟩, trivial⟩ (Nat.le_of_ble_eq_true rfl) w _ 1000 ?_
    repeat' (first | ((with_reducible first | show wpS .. | show putD .. | show putW .. | show splitG .. | show wpQ .. | show wpD .. | show wpX .. | show expX .. | show stepX .. | show keepR .. | show wpY ..); conv => whnf) | ((with_reducible show RetN ..); refine retB fun β => ?_) | ((with_reducible show _ ∧ _); first | (refine ⟨fun h => absurd h (by first | omega | decide), fun _ => ?_⟩) | (refine ⟨fun _ => ?_, fun h => absurd h (by first | omega | decide)⟩) | (refine ⟨fun _ => ?_, fun _ => ?_⟩) | (apply And.intro; · kernel_rfl) | (apply And.intro; · (show inK _ _; unfold inK; omega)) | (apply And.intro; · (show (_ : Int) ≤ 9223372036854775807; (try simp only [lenS]); omega))) | ((with_reducible show AllBe ..); refine allBe fun βe => ?_; conv => whnf) | ((with_reducible show bothX ..); refine bothI ?_ ?_; conv => whnf) | (with_reducible exact trivial) | ((with_reducible show CallN ..); refine call_of env_ok rfl 1000 ?_) | ((with_reducible show XopN ..); refine xop_of env_ok rfl 1000 ?_) | ((with_reducible show CallX ..); first | (refine callX (.int .i64 R) (by kernel_rfl) rfl (trivial) (fun β w hm => O w hm.below) ?_)) | ((with_reducible show OpX ..); first | fail) | ((with_reducible show ∃ _ : SV, _); first | fail) | ((with_reducible show ∃ _, _); first | fail))
    all_goals first | (exfalso; omega) | rfl | trace_state
  · simp only [if_neg h1] at O
    refine enter env_ok Tryz.func43 rfl Tryz.results43 Tryz.ntmps43 [] [] [.agg [.int .i64 k, .str n1, .str n2, .str tx, .bool on, .int .i64 cd, .int .i64 rw', .int .i64 cl, .any (.slice a its.length cap)], .agg [.int .i64 0, .str m1, .str m2, .str tx2, .bool on2, .int .i64 cd2, .int .i64 rw2, .int .i64 cl2, .any (.slice b its2.length cap')]] ⟨⟨trivial, trivial, trivial, trivial, trivial, trivial, trivial, trivial, rfl, trivial⟩, ⟨trivial, trivial, trivial, trivial, trivial, trivial, trivial, trivial, rfl, trivial⟩, trivial⟩ (Nat.le_of_ble_eq_true rfl) w _ 1000 ?_
    repeat' (first | ((with_reducible first | show wpS .. | show putD .. | show putW .. | show splitG .. | show wpQ .. | show wpD .. | show wpX .. | show expX .. | show stepX .. | show keepR .. | show wpY ..); conv => whnf) | ((with_reducible show RetN ..); refine retB fun β => ?_) | ((with_reducible show _ ∧ _); first | (refine ⟨fun h => absurd h (by first | omega | decide), fun _ => ?_⟩) | (refine ⟨fun _ => ?_, fun h => absurd h (by first | omega | decide)⟩) | (refine ⟨fun _ => ?_, fun _ => ?_⟩) | (apply And.intro; · kernel_rfl) | (apply And.intro; · (show inK _ _; unfold inK; omega)) | (apply And.intro; · (show (_ : Int) ≤ 9223372036854775807; (try simp only [lenS]); omega))) | ((with_reducible show AllBe ..); refine allBe fun βe => ?_; conv => whnf) | ((with_reducible show bothX ..); refine bothI ?_ ?_; conv => whnf) | (with_reducible exact trivial) | ((with_reducible show CallN ..); refine call_of env_ok rfl 1000 ?_) | ((with_reducible show XopN ..); refine xop_of env_ok rfl 1000 ?_) | ((with_reducible show CallX ..); first | (refine callX (.int .i64 R) (by kernel_rfl) rfl (trivial) (fun β w hm => O w hm.below) ?_)) | ((with_reducible show OpX ..); first | fail) | ((with_reducible show ∃ _ : SV, _); first | fail) | ((with_reducible show ∃ _, _); first | fail))
    all_goals first | (exfalso; omega) | rfl | trace_state
set_option maxRecDepth 100000 in
set_option maxHeartbeats 4000000 in
theorem rcompare_some (hk : t.kind ≠ 0) (ho : o.kind ≠ 0) (hr : 0 ≤ t.kind ∧ t.kind ≤ 5 ∧ 0 ≤ o.kind ∧ o.kind ≤ 5) (h : t.kind = o.kind → VaP.Pair t o) : Calls Tryz.prog 43 #[vtV t a cap, vtV o b cap'] w fun e w' => e = .returned (.int .i64 (VaP.cmpR1 t o)) ∧ Below w.heap.size w w' := by
  have O := fun (h' : t.kind = o.kind) (w' : World) (hb : Below w.heap.size w w') => rone_any t o a b cap cap' w' (Nat.lt_of_lt_of_le hw0 hb.size) (h h')
  have U := fun (w' : World) => runit_any (t.kind - o.kind) w'
  unfold VaP.cmpR1
  rw [if_neg ho]
  generalize VaP.oneP t o = R at *
  generalize VaP.unitP (t.kind - o.kind) = u at *
  clear h
  obtain ⟨k, ⟨n1, n2⟩, tx, on, cd, rw', cl, its⟩ := t
  obtain ⟨k2, ⟨m1, m2⟩, tx2, on2, cd2, rw2, cl2, its2⟩ := o
  unfold vtV at *
  dsimp only at *
  refine enter env_ok Tryz.func43 rfl Tryz.results43 Tryz.ntmps43 [] [] [.agg [.int .i64 k, .str n1, .str n2, .str tx, .bool on, .int .i64 cd, .int .i64 rw', .int .i64 cl, .any (.slice a its.length cap)], .agg [.int .i64 k2, .str m1, .str m2, .str tx2, .bool on2, .int .i64 cd2, .int .i64 rw2, .int .i64 cl2, .any (.slice b its2.length cap')]] ⟨⟨trivial, trivial, trivial, trivial, trivial, trivial, trivial, trivial, rfl, trivial⟩, ⟨trivial, trivial, trivial, trivial, trivial, trivial, trivial, trivial, rfl, trivial⟩, trivial⟩ (Nat.le_of_ble_eq_true rfl) w _ 1000 ?_
  repeat' (first | ((with_reducible first | show wpS .. | show putD .. | show putW .. | show splitG .. | show wpQ .. | show wpD .. | show wpX .. | show expX .. | show stepX .. | show keepR .. | show wpY ..); conv => whnf) | ((with_reducible show RetN ..); refine retB fun β => ?_) | ((with_reducible show _ ∧ _); first | (refine ⟨fun h => absurd h (by first | omega | decide), fun _ => ?_⟩) | (refine ⟨fun _ => ?_, fun h => absurd h (by first | omega | decide)⟩) | (refine ⟨fun _ => ?_, fun _ => ?_⟩) | (apply And.intro; · kernel_rfl) | (apply And.intro; · (show inK _ _; unfold inK; omega)) | (apply And.intro; · (show (_ : Int) ≤ 9223372036854775807; (try simp only [lenS]); omega))) | ((with_reducible show AllBe ..); refine allBe fun βe => ?_; conv => whnf) | ((with_reducible show bothX ..); refine bothI ?_ ?_; conv => whnf) | (with_reducible exact trivial) | ((with_reducible show CallN ..); refine call_of env_ok rfl 1000 ?_) | ((with_reducible show XopN ..); refine xop_of env_ok rfl 1000 ?_) | ((with_reducible show CallX ..); first | (refine callX (.int .i64 R) (by kernel_rfl) rfl (trivial) (fun β w hm => O (by omega) w hm.below) ?_) | (refine callX (.int .i64 u) (by kernel_rfl) rfl (trivial) (fun β w hm => U w) ?_)) | ((with_reducible show OpX ..); first | fail) | ((with_reducible show ∃ _ : SV, _); first | fail) | ((with_reducible show ∃ _, _); first | fail))
  all_goals first | (exfalso; omega) | (rw [if_pos (by assumption : ¬ k = k2)]; rfl) | (rw [if_neg (by assumption : ¬ ¬ k = k2)]; rfl) | trace_state
end
theorem VaP.unitP_le (n : Int) : -1 ≤ VaP.unitP n ∧ VaP.unitP n ≤ 1 := by
  unfold VaP.unitP
  repeat' split
  all_goals omega
theorem VaP.oneP_le (t o : VaP.VT) : -1 ≤ VaP.oneP t o ∧ VaP.oneP t o ≤ 1 := by
  unfold VaP.oneP ExP.sgn
  have h1 := VaP.unitP_le (VaP.cmpT (VaP.low t.text) (VaP.low o.text))
  have h2 := VaP.unitP_le (t.code - o.code)
  repeat' split
  all_goals omega
theorem VaP.cmpR1_le (t o : VaP.VT) : -1 ≤ VaP.cmpR1 t o ∧ VaP.cmpR1 t o ≤ 1 := by
  unfold VaP.cmpR1
  have h1 := VaP.oneP_le t (VaP.zeroK t.kind)
  have h2 := VaP.unitP_le (t.kind - o.kind)
  have h3 := VaP.oneP_le t o
  repeat' split
  all_goals omega
section
variable (t o : VaP.VT) (a b : Option Addr) (cap cap' : Nat) (w : World) (hw0 : 0 < w.heap.size)
set_option maxRecDepth 100000 in
theorem rcompare_none (hk : t.kind = 0) (ho : o.kind = 0) : Calls Tryz.prog 43 #[vtV t a cap, vtV o b cap'] w fun e w' => e = .returned (.int .i64 0) ∧ Below w.heap.size w w' := by
  obtain ⟨k, ⟨n1, n2⟩, tx, on, cd, rw', cl, its⟩ := t
  obtain ⟨k2, ⟨m1, m2⟩, tx2, on2, cd2, rw2, cl2, its2⟩ := o
  unfold vtV
  dsimp only at *
  refine enter env_ok Tryz.func43 rfl Tryz.results43 Tryz.ntmps43 [] [] [.agg [.int .i64 k, .str n1, .str n2, .str tx, .bool on, .int .i64 cd, .int .i64 rw', .int .i64 cl, .any (.slice a its.length cap)], .agg [.int .i64 k2, .str m1, .str m2, .str tx2, .bool on2, .int .i64 cd2, .int .i64 rw2, .int .i64 cl2, .any (.slice b its2.length cap')]] ⟨⟨trivial, trivial, trivial, trivial, trivial, trivial, trivial, trivial, rfl, trivial⟩, ⟨trivial, trivial, trivial, trivial, trivial, trivial, trivial, trivial, rfl, trivial⟩, trivial⟩ (Nat.le_of_ble_eq_true rfl) w _ 1000 ?_
  repeat' (first | ((with_reducible first | show wpS .. | show putD .. | show putW .. | show splitG .. | show wpQ .. | show wpD .. | show wpX .. | show expX .. | show stepX .. | show keepR .. | show wpY ..); conv => whnf) | ((with_reducible show RetN ..); refine retB fun β => ?_) | ((with_reducible show _ ∧ _); first | (refine ⟨fun h => absurd h (by first | omega | decide), fun _ => ?_⟩) | (refine ⟨fun _ => ?_, fun h => absurd h (by first | omega | decide)⟩) | (refine ⟨fun _ => ?_, fun _ => ?_⟩) | (apply And.intro; · kernel_rfl) | (apply And.intro; · (show inK _ _; unfold inK; omega)) | (apply And.intro; · (show (_ : Int) ≤ 9223372036854775807; (try simp only [lenS]); omega))) | ((with_reducible show AllBe ..); refine allBe fun βe => ?_; conv => whnf) | ((with_reducible show bothX ..); refine bothI ?_ ?_; conv => whnf) | (with_reducible exact trivial) | ((with_reducible show CallN ..); refine call_of env_ok rfl 1000 ?_) | ((with_reducible show XopN ..); refine xop_of env_ok rfl 1000 ?_) | ((with_reducible show CallX ..); first | fail) | ((with_reducible show OpX ..); first | fail) | ((with_reducible show ∃ _ : SV, _); first | fail) | ((with_reducible show ∃ _, _); first | fail))
  all_goals first | (exfalso; omega) | rfl | trace_state
include hw0
set_option maxRecDepth 100000 in
set_option maxHeartbeats 4000000 in
theorem rcompare_flip (hk : t.kind = 0) (ho : o.kind ≠ 0) (h : VaP.Pair o (VaP.zeroK o.kind)) : Calls Tryz.prog 43 #[vtV t a cap, vtV o b cap'] w fun e w' => e = .returned (.int .i64 (- VaP.cmpR1 o t)) ∧ Below w.heap.size w w' := by
  have C := fun (w' : World) (hb : Below w.heap.size w w') => rcompare_zero o t b a cap' cap w' (Nat.lt_of_lt_of_le hw0 hb.size) ho hk h
  have hR := VaP.cmpR1_le o t
  clear h
  generalize VaP.cmpR1 o t = R at *
  obtain ⟨k, ⟨n1, n2⟩, tx, on, cd, rw', cl, its⟩ := t
  obtain ⟨k2, ⟨m1, m2⟩, tx2, on2, cd2, rw2, cl2, its2⟩ := o
  unfold vtV at *
  dsimp only at *
  refine enter env_ok Tryz.func43 rfl Tryz.results43 Tryz.ntmps43 [] [] [.agg [.int .i64 k, .str n1, .str n2, .str tx, .bool on, .int .i64 cd, .int .i64 rw', .int .i64 cl, .any (.slice a its.length cap)], .agg [.int .i64 k2, .str m1, .str m2, .str tx2, .bool on2, .int .i64 cd2, .int .i64 rw2, .int .i64 cl2, .any (.slice b its2.length cap')]] ⟨⟨trivial, trivial, trivial, trivial, trivial, trivial, trivial, trivial, rfl, trivial⟩, ⟨trivial, trivial, trivial, trivial, trivial, trivial, trivial, trivial, rfl, trivial⟩, trivial⟩ (Nat.le_of_ble_eq_true rfl) w _ 1000 ?_
  repeat' (first | ((with_reducible first | show wpS .. | show putD .. | show putW .. | show splitG .. | show wpQ .. | show wpD .. | show wpX .. | show expX .. | show stepX .. | show keepR .. | show wpY ..); conv => whnf) | ((with_reducible show RetN ..); refine retB fun β => ?_) | ((with_reducible show _ ∧ _); first | (refine ⟨fun h => absurd h (by first | omega | decide), fun _ => ?_⟩) | (refine ⟨fun _ => ?_, fun h => absurd h (by first | omega | decide)⟩) | (refine ⟨fun _ => ?_, fun _ => ?_⟩) | (apply And.intro; · kernel_rfl) | (apply And.intro; · (show inK _ _; unfold inK; omega)) | (apply And.intro; · (show (_ : Int) ≤ 9223372036854775807; (try simp only [lenS]); omega))) | ((with_reducible show AllBe ..); refine allBe fun βe => ?_; conv => whnf) | ((with_reducible show bothX ..); refine bothI ?_ ?_; conv => whnf) | (with_reducible exact trivial) | ((with_reducible show CallN ..); refine call_of env_ok rfl 1000 ?_) | ((with_reducible show XopN ..); refine xop_of env_ok rfl 1000 ?_) | ((with_reducible show CallX ..); first | (refine callX (.int .i64 R) (by kernel_rfl) rfl (trivial) (fun β w hm => C w hm.below) ?_)) | ((with_reducible show OpX ..); first | fail) | ((with_reducible show ∃ _ : SV, _); first | fail) | ((with_reducible show ∃ _, _); first | fail))
  all_goals first | (exfalso; omega) | (rw [show -R = 0 - R by omega]; rfl) | trace_state
end
/-- two values ordered as the reference does -/
def VaP.ordR (t o : VaP.VT) : Int := if t.kind ≠ o.kind then VaP.unitP (VaP.placeP t.kind - VaP.placeP o.kind) else if t.kind = 0 then 0 else if VaP.oneP t o ≠ 0 ∨ t.kind ≠ 2 then VaP.oneP t o else VaP.unitP (VaP.cmpT t.text o.text)
section
variable (t o : VaP.VT) (a b : Option Addr) (cap cap' : Nat) (w : World) (hw0 : 0 < w.heap.size)
include hw0
set_option maxRecDepth 100000 in
set_option maxHeartbeats 4000000 in
theorem rorder_any (hr : 0 ≤ t.kind ∧ t.kind ≤ 5 ∧ 0 ≤ o.kind ∧ o.kind ≤ 5) (h : t.kind = o.kind → VaP.Pair t o) : Calls Tryz.prog 44 #[vtV t a cap, vtV o b cap'] w fun e w' => e = .returned (.int .i64 (VaP.ordR t o)) ∧ Below w.heap.size w w' := by
  have O := fun (h' : t.kind = o.kind) (w' : World) (hb : Below w.heap.size w w') => rone_any t o a b cap cap' w' (Nat.lt_of_lt_of_le hw0 hb.size) (h h')
  have P1 := fun (w' : World) => rplace_any t a cap w'
  have P2 := fun (w' : World) => rplace_any o b cap' w'
  have S := fun (h' : t.kind = o.kind) (w' : World) => rcmpT_any t.text o.text w' (Nat.le_trans (h h').t1 (by omega)) (Nat.le_trans (h h').t2 (by omega))
  unfold VaP.ordR
  have b1 : 0 ≤ VaP.placeP t.kind ∧ VaP.placeP t.kind ≤ 9 := by
    unfold VaP.placeP
    split <;> omega
  have b2 : 0 ≤ VaP.placeP o.kind ∧ VaP.placeP o.kind ≤ 9 := by
    unfold VaP.placeP
    split <;> omega
  clear h
  generalize VaP.oneP t o = R at *
  generalize VaP.placeP t.kind = p1 at *
  generalize VaP.placeP o.kind = p2 at *
  generalize VaP.cmpT t.text o.text = c at *
  have U1 := fun (w' : World) => runit_any (p1 - p2) w'
  have U2 := fun (w' : World) => runit_any c w'
  generalize VaP.unitP (p1 - p2) = u1 at *
  generalize VaP.unitP c = u2 at *
  obtain ⟨k, ⟨n1, n2⟩, tx, on, cd, rw', cl, its⟩ := t
  obtain ⟨k2, ⟨m1, m2⟩, tx2, on2, cd2, rw2, cl2, its2⟩ := o
  unfold vtV at *
  dsimp only at *
  generalize its.length = L1 at *
  generalize its2.length = L2 at *
  refine enter env_ok Tryz.func44 rfl Tryz.results44 Tryz.ntmps44 [] [] [.agg [.int .i64 k, .str n1, .str n2, .str tx, .bool on, .int .i64 cd, .int .i64 rw', .int .i64 cl, .any (.slice a L1 cap)], .agg [.int .i64 k2, .str m1, .str m2, .str tx2, .bool on2, .int .i64 cd2, .int .i64 rw2, .int .i64 cl2, .any (.slice b L2 cap')]] ⟨⟨trivial, trivial, trivial, trivial, trivial, trivial, trivial, trivial, rfl, trivial⟩, ⟨trivial, trivial, trivial, trivial, trivial, trivial, trivial, trivial, rfl, trivial⟩, trivial⟩ (Nat.le_of_ble_eq_true rfl) w _ 1000 ?_
  repeat' (first | ((with_reducible first | show wpS .. | show putD .. | show putW .. | show splitG .. | show wpQ .. | show wpD .. | show wpX .. | show expX .. | show stepX .. | show keepR .. | show wpY ..); conv => whnf) | ((with_reducible show RetN ..); refine retB fun β => ?_) | ((with_reducible show _ ∧ _); first | (refine ⟨fun h => absurd h (by first | omega | decide), fun _ => ?_⟩) | (refine ⟨fun _ => ?_, fun h => absurd h (by first | omega | decide)⟩) | (refine ⟨fun _ => ?_, fun _ => ?_⟩) | (apply And.intro; · kernel_rfl) | (apply And.intro; · (show inK _ _; unfold inK; omega)) | (apply And.intro; · (show (_ : Int) ≤ 9223372036854775807; (try simp only [lenS]); omega))) | ((with_reducible show AllBe ..); refine allBe fun βe => ?_; conv => whnf) | ((with_reducible show bothX ..); refine bothI ?_ ?_; conv => whnf) | (with_reducible exact trivial) | ((with_reducible show CallN ..); refine call_of env_ok rfl 1000 ?_) | ((with_reducible show XopN ..); refine xop_of env_ok rfl 1000 ?_) | ((with_reducible show CallX ..); first | (refine callX (.int .i64 p1) (by kernel_rfl) rfl (trivial) (fun β w hm => P1 w) ?_) | (refine callX (.int .i64 p2) (by kernel_rfl) rfl (trivial) (fun β w hm => P2 w) ?_) | (refine callX (.int .i64 u1) (by kernel_rfl) rfl (trivial) (fun β w hm => U1 w) ?_) | (refine callX (.int .i64 R) (by kernel_rfl) rfl (trivial) (fun β w hm => O (by omega) w hm.below) ?_) | (refine callX (.int .i64 c) (by kernel_rfl) rfl (trivial) (fun β w hm => S (by omega) w) ?_) | (refine callX (.int .i64 u2) (by kernel_rfl) rfl (trivial) (fun β w hm => U2 w) ?_)) | ((with_reducible show OpX ..); first | fail) | ((with_reducible show ∃ _ : SV, _); first | (refine ⟨.int .i64 p1, by kernel_rfl, trivial, fun β w hm => P1 w, ?_⟩) | (refine ⟨.int .i64 p2, by kernel_rfl, trivial, fun β w hm => P2 w, ?_⟩) | (refine ⟨.int .i64 u1, by kernel_rfl, trivial, fun β w hm => U1 w, ?_⟩)) | ((with_reducible show ∃ _, _); first | fail))
  all_goals first | (exfalso; omega) | (rw [if_pos (by assumption : ¬ k = k2)]; rfl) | (rw [if_neg (by assumption : ¬ ¬ k = k2), if_pos (by assumption : k = 0)]; rfl) | (rw [if_neg (by assumption : ¬ ¬ k = k2), if_neg (by assumption : ¬ k = 0), if_pos (.inl (by assumption : ¬ R = 0))]; rfl) | (rw [if_neg (by assumption : ¬ ¬ k = k2), if_neg (by assumption : ¬ k = 0), if_pos (.inr (by assumption : ¬ k = 2))]; rfl) | (rw [if_neg (by assumption : ¬ ¬ k = k2), if_neg (by assumption : ¬ k = 0), if_neg (fun h => by omega)]; rfl) | trace_state
end
end Go.Proofs.YtdkhkfdenlabaaaGreatDoor
namespace Go.Proofs.YtdkhkfdenlabaaaGreatDoor
open Go.RowKit
namespace Sym
theorem fold_set2 : ∀ (xs : List Value) (off k : Nat) (cs : List Value), off + k + xs.length ≤ cs.length →
    (xs.zipIdx k).foldl (fun (cs : Array Value) (x : Value × Nat) => cs.setIfInBounds (off + x.2) x.1) cs.toArray = (cs.take (off + k) ++ xs ++ cs.drop (off + k + xs.length)).toArray
  | [], off, k, cs, h => by simp
  | x :: xs, off, k, cs, h => by
    simp only [List.length_cons] at h
    rw [List.zipIdx_cons, List.foldl_cons]
    have e : cs.toArray.setIfInBounds (off + k) x = (cs.set (off + k) x).toArray := by simp
    have ih := fold_set2 xs off (k + 1) (cs.set (off + k) x) (by simp; omega)
    dsimp only
    rw [e, ih]
    congr 1
    have e1 : (cs.set (off + k) x).take (off + (k + 1)) = cs.take (off + k) ++ [x] := by
      rw [show off + (k + 1) = off + k + 1 by omega, List.take_succ_eq_append_getElem (by simp; omega), List.take_set_of_le (Nat.le_refl _)]
      simp
    have e2 : (cs.set (off + k) x).drop (off + (k + 1) + xs.length) = cs.drop (off + k + (x :: xs).length) := by
      rw [List.drop_set_of_lt (by omega)]
      congr 1
      simp only [List.length_cons]; omega
    rw [e1, e2]
    simp
theorem fill_two {A B zs : List Value} {s : Nat} (ha : A.length = s) (hb : B.length = s) (hz : zs.length = s + s) :
    Instr.fill (fun i => some (i * s, s)) zs.toArray [(0, .agg A.toArray), (1, .agg B.toArray)] = some (A ++ B).toArray := by
  have f1 := fold_set2 A 0 0 zs (by omega)
  have f2 := fold_set2 B s 0 (A ++ zs.drop s) (by simp; omega)
  have g1 : (A.toArray.zipIdx.foldl (fun cs (x : Value × Nat) => cs.setIfInBounds (0 * s + x.2) x.1) zs.toArray) = (A ++ zs.drop s).toArray := by
    rw [← Array.foldl_toList, Array.toList_zipIdx]
    simpa [ha] using f1
  have g2 : (B.toArray.zipIdx.foldl (fun cs (x : Value × Nat) => cs.setIfInBounds (1 * s + x.2) x.1) (A ++ zs.drop s).toArray) = (A ++ B).toArray := by
    rw [← Array.foldl_toList, Array.toList_zipIdx]
    simp only [Nat.one_mul]
    have e1 : (A ++ zs.drop s).take (s + 0) = A := by rw [Nat.add_zero, ← ha, List.take_left]
    have e2 : (A ++ zs.drop s).drop (s + 0 + B.length) = [] := List.drop_eq_nil_of_le (by simp; omega)
    rw [e1, e2, List.append_nil] at f2
    exact f2
  have c1 : ¬ ((A.toArray.size ≠ s || decide (0 * s + A.toArray.size > zs.toArray.size)) = true) := by simp [ha, hz]
  have c2 : ¬ ((B.toArray.size ≠ s || decide (1 * s + B.toArray.size > (A ++ zs.drop s).toArray.size)) = true) := by simp [ha, hb, hz]
  show (if (A.toArray.size ≠ s || decide (0 * s + A.toArray.size > zs.toArray.size)) = true then none else Instr.fill (fun i => some (i * s, s)) (A.toArray.zipIdx.foldl (fun cs (x : Value × Nat) => cs.setIfInBounds (0 * s + x.2) x.1) zs.toArray) [(1, .agg B.toArray)]) = _
  rw [if_neg c1, g1]
  show (if (B.toArray.size ≠ s || decide (1 * s + B.toArray.size > (A ++ zs.drop s).toArray.size)) = true then none else Instr.fill (fun i => some (i * s, s)) (B.toArray.zipIdx.foldl (fun cs (x : Value × Nat) => cs.setIfInBounds (1 * s + x.2) x.1) (A ++ zs.drop s).toArray) []) = _
  rw [if_neg c2, g2]
  rfl
theorem dens_app (β : Nat → Nat) : ∀ (us vs : List SV), SV.dens β (us ++ vs) = SV.dens β us ++ SV.dens β vs
  | [], _ => rfl
  | u :: us, vs => by
    show u.den β :: SV.dens β (us ++ vs) = _
    rw [dens_app β us vs]; rfl
theorem x_build2 {C : Ctx} {G : Blobs} {x y : Operand} {us vs : List SV} {t e : TypeId} {s : Nat} {z : Value} (ht : C.P.underlying t = some (.array 2 e)) (hs : ∀ w, (sizeOf e).run C.P w = .ok s w) (hz : ∀ w, (zeroValue t).run C.P w = .ok z w) (hc : z.cells.size = s + s) (h1 : us.length = s) (h2 : vs.length = s) :
    ExtN C G (.build t ⟨[(0, x), (1, y)]⟩) [.agg us, .agg vs] (.agg (us ++ vs)) := by
  unfold ExtN
  intro ρ β w dst ty pos after g _ _ h
  have h' : ρ x = .agg (SV.dens β us).toArray ∧ ρ y = .agg (SV.dens β vs).toArray := by simpa [opsX, SV.dens, SV.den] using h
  have q : (underlying t).run C.P w = .ok (.array 2 e) w := by simp [underlying, ht]
  have f1 := fill_two (A := SV.dens β us) (B := SV.dens β vs) (zs := z.cells.toList) (s := s) (by rw [SV.dens_len, h1]) (by rw [SV.dens_len, h2]) (by simpa using hc)
  rw [Array.toArray_toList] at f1
  simp [execOp, Instr.build, h'.1, h'.2, q, hs, hz, f1, SV.den, dens_app]
theorem x_index2 {C : Ctx} {G : Blobs} {x y : Operand} {t e : TypeId} {us vs ws : List SV} {s j : Nat} {q : Int} (hq : q = (j : Nat)) (ht : C.P.underlying t = some (.array 2 e)) (hs : ∀ w, (sizeOf e).run C.P w = .ok s w) (hag : ∀ w, (isAgg e).run C.P w = .ok true w) (hj : j < 2) (h1 : us.length = s) (h2 : vs.length = s) (h0 : j = 0 → ws = us) (h3 : j = 1 → ws = vs) :
    ExtN C G (.index t x y) [.agg (us ++ vs), .int .i64 q] (.agg ws) := by
  subst hq
  unfold ExtN
  intro ρ β w dst ty pos after g _ _ h
  have h' : ρ x = .agg (SV.dens β (us ++ vs)).toArray ∧ ρ y = .int .i64 (j : Nat) := by simpa [opsX, SV.dens, SV.den] using h
  have q : (underlying t).run C.P w = .ok (.array 2 e) w := by simp [underlying, ht]
  have g1 : List.take s (List.drop (j * s) (SV.dens β (us ++ vs))) = SV.dens β ws := by
    rw [dens_app]
    have l1 : (SV.dens β us).length = s := by rw [SV.dens_len, h1]
    have l2 : (SV.dens β vs).length = s := by rw [SV.dens_len, h2]
    rcases (by omega : j = 0 ∨ j = 1) with rfl | rfl
    · rw [h0 rfl, Nat.zero_mul, List.drop_zero, ← l1, List.take_left]
    · rw [h3 rfl, Nat.one_mul, List.drop_left' l1, List.take_of_length_le (by omega)]
  simp [execOp, Instr.index, h'.1, h'.2, asIntOf, q, hs, hag, hj, part, g1, SV.den]
end Sym
end Go.Proofs.YtdkhkfdenlabaaaGreatDoor
namespace Go.Proofs.YtdkhkfdenlabaaaGreatDoor
open Go.RowKit
open Sym
attribute [local irreducible] Calls Sym.AggEq ExP.nd ExP.dig ExP.upd ExP.writeF ExP.writeE
/-- the error of two values of which none is of a kind beyond the given one -/
def VaP.bothV (t o : VaP.VT) (m : Int) : Int := if VaP.vErr t ≠ 0 then VaP.vErr t else if VaP.vErr o ≠ 0 then VaP.vErr o else if m < max t.kind o.kind then 8 else 0
set_option maxRecDepth 100000 in
set_option maxHeartbeats 4000000 in
theorem vboth_any (t o : VaP.VT) (a b : Option Addr) (cap cap' : Nat) (m : Int) (w : World) (hw : XV w) (ht : VIn w t a cap) (ho : VIn w o b cap') : Calls Tryz.prog 87 #[vtV t a cap, vtV o b cap', .int .i64 m] w fun e w' => e = .returned (.int .i64 (VaP.bothV t o m)) ∧ Below w.heap.size w w' := by
  have C1 := fun (w' : World) (h : Below w.heap.size w w') => vcheck_any t a cap w' (hw.below h) (ht.lift h)
  have C2 := fun (w' : World) (h : Below w.heap.size w w') => vcheck_any o b cap' w' (hw.below h) (ho.lift h)
  have hB : VaP.bothV t o m = if VaP.vErr t ≠ 0 then VaP.vErr t else if VaP.vErr o ≠ 0 then VaP.vErr o else if m < max t.kind o.kind then 8 else 0 := rfl
  rw [hB]
  clear hB ht ho
  generalize VaP.vErr t = E1 at *
  generalize VaP.vErr o = E2 at *
  obtain ⟨k, ⟨n1, n2⟩, tx, on, cd, rw', cl, its⟩ := t
  obtain ⟨k2, ⟨m1, m2⟩, tx2, on2, cd2, rw2, cl2, its2⟩ := o
  unfold vtV at *
  dsimp only at *
  generalize its.length = L1 at *
  generalize its2.length = L2 at *
  refine enter env_ok Tryz.func87 rfl Tryz.results87 Tryz.ntmps87 [] [] [.agg [.int .i64 k, .str n1, .str n2, .str tx, .bool on, .int .i64 cd, .int .i64 rw', .int .i64 cl, .any (.slice a L1 cap)], .agg [.int .i64 k2, .str m1, .str m2, .str tx2, .bool on2, .int .i64 cd2, .int .i64 rw2, .int .i64 cl2, .any (.slice b L2 cap')], .int .i64 m] ⟨⟨trivial, trivial, trivial, trivial, trivial, trivial, trivial, trivial, rfl, trivial⟩, ⟨trivial, trivial, trivial, trivial, trivial, trivial, trivial, trivial, rfl, trivial⟩, trivial, trivial⟩ (Nat.le_of_ble_eq_true rfl) w _ 1000 ?_
  repeat' (first | ((with_reducible first | show wpS .. | show putD .. | show putW .. | show splitG .. | show wpQ .. | show wpD .. | show wpX .. | show expX .. | show stepX .. | show keepR .. | show wpY ..); conv => whnf) | ((with_reducible show RetN ..); refine retB fun β => ?_) | ((with_reducible show _ ∧ _); first | (refine ⟨fun h => absurd h (by first | omega | decide), fun _ => ?_⟩) | (refine ⟨fun _ => ?_, fun h => absurd h (by first | omega | decide)⟩) | (refine ⟨fun _ => ?_, fun _ => ?_⟩) | (apply And.intro; · kernel_rfl) | (apply And.intro; · (show inK _ _; unfold inK; omega)) | (apply And.intro; · (show (_ : Int) ≤ 9223372036854775807; (try simp only [lenS]); omega))) | ((with_reducible show AllBe ..); refine allBe fun βe => ?_; conv => whnf) | ((with_reducible show bothX ..); refine bothI ?_ ?_; conv => whnf) | (with_reducible exact trivial) | ((with_reducible show CallN ..); refine call_of env_ok rfl 1000 ?_) | ((with_reducible show XopN ..); refine xop_of env_ok rfl 1000 ?_) | ((with_reducible show CallX ..); first | fail) | ((with_reducible show OpX ..); first | fail) | ((with_reducible show ∃ _ : SV, _); first | (refine ⟨_, ?ok, x_build2 Tryz.underlying151 (fun w => Tryz.sizeOf28 w) (fun w => Tryz.zeroValue151 w) rfl rfl rfl, ?_⟩; (case ok => exact fun _ h => ⟨trivial, trivial, trivial, trivial, trivial, trivial, trivial, trivial, rfl, trivial, trivial, trivial, trivial, trivial, trivial, trivial, trivial, rfl, trivial⟩))) | ((with_reducible show ∃ _, _); first | fail))
  refine loop env_ok rfl (T := {i : Nat // i ≤ 2 ∧ (0 < i → E1 = 0) ∧ (1 < i → E2 = 0)}) (fun t => ⟨[(2, .int .i64 m), (3, .ptr 0 0), (4, .ptr 1 0), (12, .agg [.int .i64 k, .str n1, .str n2, .str tx, .bool on, .int .i64 cd, .int .i64 rw', .int .i64 cl, .any (.slice a L1 cap), .int .i64 k2, .str m1, .str m2, .str tx2, .bool on2, .int .i64 cd2, .int .i64 rw2, .int .i64 cl2, .any (.slice b L2 cap')]), (13, .int .i64 (t.1 : Nat))], [(0, true, .cells 28 [.int .i64 k, .str n1, .str n2, .str tx, .bool on, .int .i64 cd, .int .i64 rw', .int .i64 cl, .any (.slice a L1 cap)]), (1, true, .cells 28 [.int .i64 k2, .str m1, .str m2, .str tx2, .bool on2, .int .i64 cd2, .int .i64 rw2, .int .i64 cl2, .any (.slice b L2 cap')])], 2, 29⟩) (fun t => 2 - t.1) ⟨0, by omega, by omega, by omega⟩ 1000 [] [] (fun _ => Nat.zero_le _) (by ((with_reducible show wk _ _); repeat' (first | exact trivial | exact eqSV_refl _ | (refine eqI ?_) | (refine eqS ?_) | (with_reducible exact rfl) | apply And.intro | exact Nat.zero_lt_one | exact Nat.le_of_ble_eq_true rfl | (with_reducible assumption) | ((show (_ : Int) = _); (try dsimp only); omega) | ((show eqSV _ _); simp [eqSV, isB, bval, *]; done) | rfl))) (fun t I hI => ?_)
  obtain ⟨i, hi, hz1, hz2⟩ := t
  dsimp only
  rcases (by omega : i = 0 ∨ i = 1 ∨ i = 2) with rfl | rfl | rfl
  · repeat' (first | ((with_reducible first | show wpS .. | show putD .. | show putW .. | show splitG .. | show wpQ .. | show wpD .. | show wpX .. | show expX .. | show stepX .. | show keepR .. | show wpY ..); conv => whnf) | ((with_reducible show RetN ..); refine retB fun β => ?_) | ((with_reducible show _ ∧ _); first | (refine ⟨fun h => absurd h (by first | omega | decide), fun _ => ?_⟩) | (refine ⟨fun _ => ?_, fun h => absurd h (by first | omega | decide)⟩) | (refine ⟨fun _ => ?_, fun _ => ?_⟩) | (apply And.intro; · kernel_rfl) | (apply And.intro; · (show inK _ _; unfold inK; omega)) | (apply And.intro; · (show (_ : Int) ≤ 9223372036854775807; (try simp only [lenS]); omega))) | ((with_reducible show AllBe ..); refine allBe fun βe => ?_; conv => whnf) | ((with_reducible show bothX ..); refine bothI ?_ ?_; conv => whnf) | (with_reducible exact trivial) | ((with_reducible show CallN ..); refine call_of env_ok rfl 1000 ?_) | ((with_reducible show XopN ..); refine xop_of env_ok rfl 1000 ?_) | ((with_reducible show CallX ..); first | (refine callX (.int .i64 E1) (by kernel_rfl) rfl (trivial) (fun β w hm => C1 w hm.below) ?_)) | ((with_reducible show OpX ..); first | fail) | ((with_reducible show ∃ _ : SV, _); first | (refine ⟨.agg [.int .i64 k, .str n1, .str n2, .str tx, .bool on, .int .i64 cd, .int .i64 rw', .int .i64 cl, .any (.slice a L1 cap)], ?ok, x_index2 (us := [.int .i64 k, .str n1, .str n2, .str tx, .bool on, .int .i64 cd, .int .i64 rw', .int .i64 cl, .any (.slice a L1 cap)]) (j := 0) rfl Tryz.underlying151 (fun w => Tryz.sizeOf28 w) (fun w => Tryz.isAgg28 w) (by omega) rfl rfl (fun _ => rfl) (fun h => by omega), ?_⟩; (case ok => exact fun _ _ => ⟨trivial, trivial, trivial, trivial, trivial, trivial, trivial, trivial, rfl, trivial⟩))) | ((with_reducible show ∃ _, _); first | fail))
    all_goals first | (exfalso; omega) | (rw [if_pos (by assumption)]; rfl) | (refine hI _ ⟨1, by omega, fun _ => by omega, fun h => by omega⟩ (by dsimp only; omega) (by ((with_reducible show wk _ _); repeat' (first | exact trivial | exact eqSV_refl _ | (refine eqI ?_) | (refine eqS ?_) | (with_reducible exact rfl) | apply And.intro | exact Nat.zero_lt_one | exact Nat.le_of_ble_eq_true rfl | (with_reducible assumption) | ((show (_ : Int) = _); (try dsimp only); omega) | ((show eqSV _ _); simp [eqSV, isB, bval, *]; done) | rfl))); done) | trace_state
  · have hz := hz1 (by omega)
    subst hz
    repeat' (first | ((with_reducible first | show wpS .. | show putD .. | show putW .. | show splitG .. | show wpQ .. | show wpD .. | show wpX .. | show expX .. | show stepX .. | show keepR .. | show wpY ..); conv => whnf) | ((with_reducible show RetN ..); refine retB fun β => ?_) | ((with_reducible show _ ∧ _); first | (refine ⟨fun h => absurd h (by first | omega | decide), fun _ => ?_⟩) | (refine ⟨fun _ => ?_, fun h => absurd h (by first | omega | decide)⟩) | (refine ⟨fun _ => ?_, fun _ => ?_⟩) | (apply And.intro; · kernel_rfl) | (apply And.intro; · (show inK _ _; unfold inK; omega)) | (apply And.intro; · (show (_ : Int) ≤ 9223372036854775807; (try simp only [lenS]); omega))) | ((with_reducible show AllBe ..); refine allBe fun βe => ?_; conv => whnf) | ((with_reducible show bothX ..); refine bothI ?_ ?_; conv => whnf) | (with_reducible exact trivial) | ((with_reducible show CallN ..); refine call_of env_ok rfl 1000 ?_) | ((with_reducible show XopN ..); refine xop_of env_ok rfl 1000 ?_) | ((with_reducible show CallX ..); first | (refine callX (.int .i64 E2) (by kernel_rfl) rfl (trivial) (fun β w hm => C2 w hm.below) ?_)) | ((with_reducible show OpX ..); first | fail) | ((with_reducible show ∃ _ : SV, _); first | (refine ⟨.agg [.int .i64 k2, .str m1, .str m2, .str tx2, .bool on2, .int .i64 cd2, .int .i64 rw2, .int .i64 cl2, .any (.slice b L2 cap')], ?ok, x_index2 (us := [.int .i64 k, .str n1, .str n2, .str tx, .bool on, .int .i64 cd, .int .i64 rw', .int .i64 cl, .any (.slice a L1 cap)]) (j := 1) rfl Tryz.underlying151 (fun w => Tryz.sizeOf28 w) (fun w => Tryz.isAgg28 w) (by omega) rfl rfl (fun h => by omega) (fun _ => rfl), ?_⟩; (case ok => exact fun _ _ => ⟨trivial, trivial, trivial, trivial, trivial, trivial, trivial, trivial, rfl, trivial⟩))) | ((with_reducible show ∃ _, _); first | fail))
    all_goals first | (exfalso; omega) | (rw [if_neg (by omega), if_pos (by assumption)]; rfl) | (refine hI _ ⟨2, by omega, fun _ => by omega, fun h => by omega⟩ (by dsimp only; omega) (by ((with_reducible show wk _ _); repeat' (first | exact trivial | exact eqSV_refl _ | (refine eqI ?_) | (refine eqS ?_) | (with_reducible exact rfl) | apply And.intro | exact Nat.zero_lt_one | exact Nat.le_of_ble_eq_true rfl | (with_reducible assumption) | ((show (_ : Int) = _); (try dsimp only); omega) | ((show eqSV _ _); simp [eqSV, isB, bval, *]; done) | rfl))); done) | trace_state
  · have h1 := hz1 (by omega)
    have h2 := hz2 (by omega)
    subst h1 h2
    repeat' (first | ((with_reducible first | show wpS .. | show putD .. | show putW .. | show splitG .. | show wpQ .. | show wpD .. | show wpX .. | show expX .. | show stepX .. | show keepR .. | show wpY ..); conv => whnf) | ((with_reducible show RetN ..); refine retB fun β => ?_) | ((with_reducible show _ ∧ _); first | (refine ⟨fun h => absurd h (by first | omega | decide), fun _ => ?_⟩) | (refine ⟨fun _ => ?_, fun h => absurd h (by first | omega | decide)⟩) | (refine ⟨fun _ => ?_, fun _ => ?_⟩) | (apply And.intro; · kernel_rfl) | (apply And.intro; · (show inK _ _; unfold inK; omega)) | (apply And.intro; · (show (_ : Int) ≤ 9223372036854775807; (try simp only [lenS]); omega))) | ((with_reducible show AllBe ..); refine allBe fun βe => ?_; conv => whnf) | ((with_reducible show bothX ..); refine bothI ?_ ?_; conv => whnf) | (with_reducible exact trivial) | ((with_reducible show CallN ..); refine call_of env_ok rfl 1000 ?_) | ((with_reducible show XopN ..); refine xop_of env_ok rfl 1000 ?_) | ((with_reducible show CallX ..); first | fail) | ((with_reducible show OpX ..); first | fail) | ((with_reducible show ∃ _ : SV, _); first | fail) | ((with_reducible show ∃ _, _); first | fail))
    all_goals first | (exfalso; omega) | (rw [if_neg (by omega), if_neg (by omega), if_pos (by assumption)]; rfl) | (rw [if_neg (by omega), if_neg (by omega), if_neg (by assumption)]; rfl) | trace_state
end Go.Proofs.YtdkhkfdenlabaaaGreatDoor
namespace Go.Proofs.YtdkhkfdenlabaaaGreatDoor
open Go.RowKit
open Sym
attribute [local irreducible] Calls Sym.AggEq ExP.nd ExP.dig ExP.upd ExP.writeF ExP.writeE
/-- where the items of it lie -/
def VaP.likeA (t o : VaP.VT) (p : Option Addr × Nat) : Option Addr × Nat := if t.kind ≠ 0 then p else if o.kind = 1 then (none, 0) else if o.kind = 2 ∨ o.kind = 3 then (none, 0) else p
set_option maxRecDepth 100000 in
set_option maxHeartbeats 4000000 in
theorem vlike_any (t o : VaP.VT) (a b : Option Addr) (cap cap' : Nat) (w : World) (hw : XV w) : Calls Tryz.prog 88 #[vtV t a cap, vtV o b cap'] w fun e w' => e = .returned (vtV (VaP.likeV t o) (VaP.likeA t o (a, cap)).1 (VaP.likeA t o (a, cap)).2) ∧ Below w.heap.size w w' := by
  have W := fun (w' : World) (h : Below w.heap.size w w') => vwhole_any 0 w' (hw.below h) (by omega) (by omega)
  have e0 : Lib.itoa 0 = [48] := by show Lib.decDigits 0 = [48]; rw [Lib.decDigits_one (by omega)]; rfl
  rw [e0] at W
  obtain ⟨k, ⟨n1, n2⟩, tx, on, cd, rw', cl, its⟩ := t
  obtain ⟨k2, ⟨m1, m2⟩, tx2, on2, cd2, rw2, cl2, its2⟩ := o
  unfold VaP.likeV VaP.likeA
  dsimp only
  refine enter env_ok Tryz.func88 rfl Tryz.results88 Tryz.ntmps88 [] [] [.agg [.int .i64 k, .str n1, .str n2, .str tx, .bool on, .int .i64 cd, .int .i64 rw', .int .i64 cl, .any (.slice a its.length cap)], .agg [.int .i64 k2, .str m1, .str m2, .str tx2, .bool on2, .int .i64 cd2, .int .i64 rw2, .int .i64 cl2, .any (.slice b its2.length cap')]] ⟨⟨trivial, trivial, trivial, trivial, trivial, trivial, trivial, trivial, rfl, trivial⟩, ⟨trivial, trivial, trivial, trivial, trivial, trivial, trivial, trivial, rfl, trivial⟩, trivial⟩ (Nat.le_of_ble_eq_true rfl) w _ 1000 ?_
  repeat' (first | ((with_reducible first | show wpS .. | show putD .. | show putW .. | show splitG .. | show wpQ .. | show wpD .. | show wpX .. | show expX .. | show stepX .. | show keepR .. | show wpY ..); conv => whnf) | ((with_reducible show RetN ..); refine retB fun β => ?_) | ((with_reducible show _ ∧ _); first | (refine ⟨fun h => absurd h (by first | omega | decide), fun _ => ?_⟩) | (refine ⟨fun _ => ?_, fun h => absurd h (by first | omega | decide)⟩) | (refine ⟨fun _ => ?_, fun _ => ?_⟩) | (apply And.intro; · kernel_rfl) | (apply And.intro; · (show inK _ _; unfold inK; omega)) | (apply And.intro; · (show (_ : Int) ≤ 9223372036854775807; (try simp only [lenS]); omega))) | ((with_reducible show AllBe ..); refine allBe fun βe => ?_; conv => whnf) | ((with_reducible show bothX ..); refine bothI ?_ ?_; conv => whnf) | (with_reducible exact trivial) | ((with_reducible show CallN ..); refine call_of env_ok rfl 1000 ?_) | ((with_reducible show XopN ..); refine xop_of env_ok rfl 1000 ?_) | ((with_reducible show CallX ..); first | (refine callX (.agg [.int .i64 1, .str [48], .str [49], .str [], .lit false, .int .i64 0, .int .i64 0, .int .i64 0, .any (.slice none 0 0)]) (by kernel_rfl) rfl (⟨trivial, trivial, trivial, trivial, trivial, trivial, trivial, trivial, rfl, trivial⟩) (fun β w hm => W w hm.below) ?_)) | ((with_reducible show OpX ..); first | fail) | ((with_reducible show ∃ _ : SV, _); first | fail) | ((with_reducible show ∃ _, _); first | fail))
  all_goals first | (simp only [if_pos (by assumption : ¬ k = 0)]; rfl) | (simp only [if_neg (by assumption : ¬ ¬ k = 0), if_pos (by assumption : k2 = 1)]; rfl) | (simp only [if_neg (by assumption : ¬ ¬ k = 0), if_neg (by assumption : ¬ k2 = 1), if_pos (show k2 = 2 ∨ k2 = 3 from .inl (by assumption : k2 = 2))]; rfl) | (simp only [if_neg (by assumption : ¬ ¬ k = 0), if_neg (by assumption : ¬ k2 = 1), if_pos (show k2 = 2 ∨ k2 = 3 from .inr (by assumption : k2 = 3))]; rfl) | (simp only [if_neg (by assumption : ¬ ¬ k = 0), if_neg (by assumption : ¬ k2 = 1), if_neg (show ¬ (k2 = 2 ∨ k2 = 3) by omega)]; rfl) | trace_state

def VaP.cmpV (t o : VaP.VT) : Int := if VaP.bothV t o 3 ≠ 0 then 0 else if (VaP.likeV t o).kind = 0 then 0 else if (VaP.likeV t o).kind ≠ (VaP.likeV o t).kind then Lib.compareInt (VaP.rankP (VaP.likeV t o).kind) (VaP.rankP (VaP.likeV o t).kind) else VaP.cmpdV (VaP.likeV t o) (VaP.likeV o t)
set_option maxRecDepth 100000 in
set_option maxHeartbeats 4000000 in
theorem vcompare_any (t o : VaP.VT) (a b : Option Addr) (cap cap' : Nat) (w : World) (hw : XV w) (ht : VIn w t a cap) (ho : VIn w o b cap') (hF : VaP.bothV t o 3 = 0 → (VaP.likeV t o).Fit ∧ (VaP.likeV t o).text.length ≤ 1000000 ∧ (VaP.likeV o t).Fit ∧ (VaP.likeV o t).text.length ≤ 1000000) : Calls Tryz.prog 41 #[vtV t a cap, vtV o b cap'] w fun e w' => e = .returned (.tuple #[.int .i64 (VaP.cmpV t o), .int .i64 (VaP.bothV t o 3)]) ∧ Below w.heap.size w w' := by
  have B := fun (w' : World) (h : Below w.heap.size w w') => vboth_any t o a b cap cap' 3 w' (hw.below h) (ht.lift h) (ho.lift h)
  have K1 := fun (w' : World) (h : Below w.heap.size w w') => vlike_any t o a b cap cap' w' (hw.below h)
  have K2 := fun (w' : World) (h : Below w.heap.size w w') => vlike_any o t b a cap' cap w' (hw.below h)
  have hC : VaP.cmpV t o = if VaP.bothV t o 3 ≠ 0 then 0 else if (VaP.likeV t o).kind = 0 then 0 else if (VaP.likeV t o).kind ≠ (VaP.likeV o t).kind then Lib.compareInt (VaP.rankP (VaP.likeV t o).kind) (VaP.rankP (VaP.likeV o t).kind) else VaP.cmpdV (VaP.likeV t o) (VaP.likeV o t) := rfl
  rw [hC]
  clear hC ht ho
  generalize VaP.likeA t o (a, cap) = A1 at *
  generalize VaP.likeA o t (b, cap') = A2 at *
  generalize VaP.likeV t o = T at *
  generalize VaP.likeV o t = O at *
  obtain ⟨a1, c1⟩ := A1
  obtain ⟨a2, c2⟩ := A2
  dsimp only at *
  have R1 := fun (w' : World) => rank_any T a1 c1 w'
  have R2 := fun (w' : World) => rank_any O a2 c2 w'
  have I := fun (w' : World) => (Tryz.cmp_Compare_int (VaP.rankP T.kind) (VaP.rankP O.kind) w').mono (fun e w'' (h : _ ∧ _) => (⟨h.1, by rw [h.2]; exact Below.refl _ _⟩ : e = .returned (.int .i64 (Lib.compareInt (VaP.rankP T.kind) (VaP.rankP O.kind))) ∧ Below w'.heap.size w' w''))
  have D : VaP.bothV t o 3 = 0 → ∀ w', Below w.heap.size w w' → Calls Tryz.prog 91 #[vtV T a1 c1, vtV O a2 c2] w' fun e w'' => e = .returned (.int .i64 (VaP.cmpdV T O)) ∧ Below w'.heap.size w' w'' := fun h w' hb => compared_any T O a1 a2 c1 c2 w' (hw.below hb) (hF h).1 (hF h).2.2.1 (hF h).2.1 (hF h).2.2.2
  clear hF
  generalize VaP.bothV t o 3 = E at *
  generalize VaP.cmpdV T O = DD at *
  generalize hII : Lib.compareInt (VaP.rankP T.kind) (VaP.rankP O.kind) = II at *
  obtain ⟨k, ⟨n1, n2⟩, tx, on, cd, rw', cl, its⟩ := t
  obtain ⟨k2, ⟨m1, m2⟩, tx2, on2, cd2, rw2, cl2, its2⟩ := o
  obtain ⟨Tk, ⟨p1, p2⟩, Tt, To, Tc, Tr, Tl, Ti⟩ := T
  obtain ⟨Ok, ⟨q1, q2⟩, Ot, Oo, Oc, Or', Ol, Oi⟩ := O
  unfold vtV at *
  dsimp only at *
  generalize its.length = L1 at *
  generalize its2.length = L2 at *
  generalize Ti.length = L3 at *
  generalize Oi.length = L4 at *
  generalize hr1 : VaP.rankP Tk = r1 at *
  generalize hr2 : VaP.rankP Ok = r2 at *
  refine enter env_ok Tryz.func41 rfl Tryz.results41 Tryz.ntmps41 [] [] [.agg [.int .i64 k, .str n1, .str n2, .str tx, .bool on, .int .i64 cd, .int .i64 rw', .int .i64 cl, .any (.slice a L1 cap)], .agg [.int .i64 k2, .str m1, .str m2, .str tx2, .bool on2, .int .i64 cd2, .int .i64 rw2, .int .i64 cl2, .any (.slice b L2 cap')]] ⟨⟨trivial, trivial, trivial, trivial, trivial, trivial, trivial, trivial, rfl, trivial⟩, ⟨trivial, trivial, trivial, trivial, trivial, trivial, trivial, trivial, rfl, trivial⟩, trivial⟩ (Nat.le_of_ble_eq_true rfl) w _ 1000 ?_
  repeat' (first | ((with_reducible first | show wpS .. | show putD .. | show putW .. | show splitG .. | show wpQ .. | show wpD .. | show wpX .. | show expX .. | show stepX .. | show keepR .. | show wpY ..); conv => whnf) | ((with_reducible show RetN ..); refine retB fun β => ?_) | ((with_reducible show _ ∧ _); first | (refine ⟨fun h => absurd h (by first | omega | decide), fun _ => ?_⟩) | (refine ⟨fun _ => ?_, fun h => absurd h (by first | omega | decide)⟩) | (refine ⟨fun _ => ?_, fun _ => ?_⟩) | (apply And.intro; · kernel_rfl) | (apply And.intro; · (show inK _ _; unfold inK; omega)) | (apply And.intro; · (show (_ : Int) ≤ 9223372036854775807; (try simp only [lenS]); omega))) | ((with_reducible show AllBe ..); refine allBe fun βe => ?_; conv => whnf) | ((with_reducible show bothX ..); refine bothI ?_ ?_; conv => whnf) | (with_reducible exact trivial) | ((with_reducible show CallN ..); refine call_of env_ok rfl 1000 ?_) | ((with_reducible show XopN ..); refine xop_of env_ok rfl 1000 ?_) | ((with_reducible show CallX ..); first | (refine callX (.int .i64 E) (by kernel_rfl) rfl (trivial) (fun β w hm => B w hm.below) ?_) | (refine callX (.agg [.int .i64 Tk, .str p1, .str p2, .str Tt, .bool To, .int .i64 Tc, .int .i64 Tr, .int .i64 Tl, .any (.slice a1 L3 c1)]) (by kernel_rfl) rfl (⟨trivial, trivial, trivial, trivial, trivial, trivial, trivial, trivial, rfl, trivial⟩) (fun β w hm => K1 w hm.below) ?_) | (refine callX (.agg [.int .i64 Ok, .str q1, .str q2, .str Ot, .bool Oo, .int .i64 Oc, .int .i64 Or', .int .i64 Ol, .any (.slice a2 L4 c2)]) (by kernel_rfl) rfl (⟨trivial, trivial, trivial, trivial, trivial, trivial, trivial, trivial, rfl, trivial⟩) (fun β w hm => K2 w hm.below) ?_) | (refine callX (.int .i64 r1) (by kernel_rfl) rfl (trivial) (fun β w hm => R1 w) ?_) | (refine callX (.int .i64 r2) (by kernel_rfl) rfl (trivial) (fun β w hm => R2 w) ?_) | (refine callX (.int .i64 II) (by kernel_rfl) rfl (trivial) (fun β w hm => I w) ?_) | (refine callX (.int .i64 DD) (by kernel_rfl) rfl (trivial) (fun β w hm => D (by omega) w hm.below) ?_)) | ((with_reducible show OpX ..); first | fail) | ((with_reducible show ∃ _ : SV, _); first | (refine ⟨.agg [.int .i64 Tk, .str p1, .str p2, .str Tt, .bool To, .int .i64 Tc, .int .i64 Tr, .int .i64 Tl, .any (.slice a1 L3 c1)], by kernel_rfl, ⟨trivial, trivial, trivial, trivial, trivial, trivial, trivial, trivial, rfl, trivial⟩, fun β w hm => K1 w hm.below, ?_⟩) | (refine ⟨.agg [.int .i64 Ok, .str q1, .str q2, .str Ot, .bool Oo, .int .i64 Oc, .int .i64 Or', .int .i64 Ol, .any (.slice a2 L4 c2)], by kernel_rfl, ⟨trivial, trivial, trivial, trivial, trivial, trivial, trivial, trivial, rfl, trivial⟩, fun β w hm => K2 w hm.below, ?_⟩) | (refine ⟨.int .i64 r1, by kernel_rfl, trivial, fun β w hm => R1 w, ?_⟩) | (refine ⟨.int .i64 r2, by kernel_rfl, trivial, fun β w hm => R2 w, ?_⟩) | (refine ⟨.int .i64 II, by kernel_rfl, trivial, fun β w hm => I w, ?_⟩)) | ((with_reducible show ∃ _, _); first | fail))
  all_goals first | (exfalso; omega) | (rw [if_pos (show E ≠ 0 by omega)]; rfl) | (have hE : E = 0 := by { omega }; rw [if_neg (fun h => h hE), if_pos (by assumption : Tk = 0), hE]; rfl) | (have hE : E = 0 := by { omega }; rw [if_neg (fun h => h hE), if_neg (by assumption : ¬ Tk = 0), if_pos (by assumption : ¬ Tk = Ok), hE]; rfl) | (have hE : E = 0 := by { omega }; rw [if_neg (fun h => h hE), if_neg (by assumption : ¬ Tk = 0), if_neg (by assumption : ¬ ¬ Tk = Ok), hE]; rfl) | trace_state
end Go.Proofs.YtdkhkfdenlabaaaGreatDoor
