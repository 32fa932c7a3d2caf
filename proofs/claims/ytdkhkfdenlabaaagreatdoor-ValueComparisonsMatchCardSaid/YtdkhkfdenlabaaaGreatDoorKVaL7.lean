/- Values: the law of comparisons. -/
import Derived.Test.YtdkhkfdenlabaaaGreatDoorKGX
set_option linter.unusedSimpArgs false
set_option linter.unusedVariables false
namespace Go.Proofs.YtdkhkfdenlabaaaGreatDoor
open Go.RowKit
open Sym
attribute [local irreducible] Calls Sym.AggEq ExP.nd ExP.dig ExP.upd ExP.writeF ExP.writeE
theorem VaP.like_fit {t o : VaP.VT} (h : t.Fit) (hl : t.text.length ≤ 1000000) : (VaP.likeV t o).Fit ∧ (VaP.likeV t o).text.length ≤ 1000000 := by
  unfold VaP.likeV
  split
  · exact ⟨h, hl⟩
  · split
    · exact ⟨⟨by decide, by decide, by decide⟩, by decide⟩
    · split
      · exact ⟨⟨by simp, by simp, by simp⟩, by simp⟩
      · exact ⟨h, hl⟩
section
variable (t o : VaP.VT) (a b : Option Addr) (cap cap' : Nat) (w : World) (hw0 : 0 < w.heap.size)
include hw0
theorem rcmp_all (h : VaP.bothV t o 3 = 0) : Calls Tryz.prog 43 #[vtV t a cap, vtV o b cap'] w fun e w' => e = .returned (.int .i64 (VaP.cmpV t o)) ∧ Below w.heap.size w w' := by
  rw [VaP.cmp_eq h]
  obtain ⟨h1, h2, k1, k2⟩ := VaP.both_split h
  have ht := VaP.fine_of h1
  have ho := VaP.fine_of h2
  have a0 := ht.k0
  have b0 := ho.k0
  unfold VaP.cmpR
  by_cases ht0 : t.kind = 0
  · by_cases ho0 : o.kind = 0
    · rw [if_pos ⟨ht0, ho0⟩]
      exact rcompare_none t o a b cap cap' w ht0 ho0
    · rw [if_neg (fun h => ho0 h.2), if_pos ht0]
      exact rcompare_flip t o a b cap cap' w hw0 ht0 ho0 (VaP.pair_of ho (VaP.fine_zero ⟨b0, k2⟩) (VaP.zeroK_kind _).symm)
  · rw [if_neg (fun h => ht0 h.1), if_neg ht0]
    by_cases ho0 : o.kind = 0
    · exact rcompare_zero t o a b cap cap' w hw0 ht0 ho0 (VaP.pair_of ht (VaP.fine_zero ⟨a0, k1⟩) (VaP.zeroK_kind _).symm)
    · exact rcompare_some t o a b cap cap' w hw0 ht0 ho0 ⟨a0, by omega, b0, by omega⟩ (fun hk => VaP.pair_of ht ho hk)
theorem rord_all (h : VaP.bothV t o 4 = 0) : Calls Tryz.prog 44 #[vtV t a cap, vtV o b cap'] w fun e w' => e = .returned (.int .i64 (VaP.ordV t o)) ∧ Below w.heap.size w w' := by
  rw [VaP.ord_eq h]
  obtain ⟨h1, h2, k1, k2⟩ := VaP.both_split h
  have ht := VaP.fine_of h1
  have ho := VaP.fine_of h2
  exact rorder_any t o a b cap cap' w hw0 ⟨ht.k0, by omega, ho.k0, by omega⟩ (fun hk => VaP.pair_of ht ho hk)
end
/-- the errors that both sides find -/
theorem VaP.both_cases (t o : VaP.VT) : (VaP.vErr t ≠ 0 ∧ VaP.bothV t o 3 = VaP.vErr t ∧ VaP.bothV t o 4 = VaP.vErr t) ∨ (VaP.vErr t = 0 ∧ VaP.vErr o ≠ 0 ∧ VaP.bothV t o 3 = VaP.vErr o ∧ VaP.bothV t o 4 = VaP.vErr o) ∨
    (VaP.vErr t = 0 ∧ VaP.vErr o = 0 ∧ (4 < t.kind ∨ 4 < o.kind) ∧ VaP.bothV t o 3 = 8 ∧ VaP.bothV t o 4 = 8) ∨ (VaP.vErr t = 0 ∧ VaP.vErr o = 0 ∧ ¬ (4 < t.kind ∨ 4 < o.kind) ∧ (3 < t.kind ∨ 3 < o.kind) ∧ VaP.bothV t o 3 = 8 ∧ VaP.bothV t o 4 = 0) ∨
    (VaP.vErr t = 0 ∧ VaP.vErr o = 0 ∧ ¬ (3 < t.kind ∨ 3 < o.kind) ∧ VaP.bothV t o 3 = 0 ∧ VaP.bothV t o 4 = 0) := by
  by_cases h1 : VaP.vErr t = 0
  · by_cases h2 : VaP.vErr o = 0
    · have e := fun m => show VaP.bothV t o m = if m < max t.kind o.kind then 8 else 0 by
        unfold VaP.bothV
        rw [if_neg (fun h => h h1), if_neg (fun h => h h2)]
      have e3 := e 3
      have e4 := e 4
      by_cases h4 : 4 < t.kind ∨ 4 < o.kind
      · rw [if_pos (by omega)] at e3 e4; omega
      · rw [if_neg (show ¬ (4 : Int) < max t.kind o.kind by omega)] at e4
        by_cases h3 : 3 < t.kind ∨ 3 < o.kind
        · rw [if_pos (by omega)] at e3; omega
        · rw [if_neg (by omega)] at e3; omega
    · have e := fun m => show VaP.bothV t o m = VaP.vErr o by
        unfold VaP.bothV
        rw [if_neg (fun h => h h1), if_pos h2]
      exact .inr (.inl ⟨h1, h2, e 3, e 4⟩)
  · have e := fun m => show VaP.bothV t o m = VaP.vErr t by
      unfold VaP.bothV
      rw [if_pos h1]
    exact .inl ⟨h1, e 3, e 4⟩
set_option maxRecDepth 100000 in
set_option maxHeartbeats 8000000 in
theorem cmpLaw_any (t o : VaP.VT) (a b : Option Addr) (cap cap' : Nat) (w : World) (hw : XV w ∧ XR w) (ht : VIn w t a cap) (ho : VIn w o b cap') : Calls Tryz.prog 7 #[vtV t a cap, vtV o b cap'] w fun e w' => e = .returned (.bool true) ∧ Below w.heap.size w w' := by
  have hw0 := hw.1.pos
  have V := fun (w' : World) (h : Below w.heap.size w w') => values_any w' (hw.1.below h)
  have hl : VaP.vErr t = 0 ∧ VaP.vErr o = 0 → t.text.length ≤ 1000000 ∧ o.text.length ≤ 1000000 := fun h => ⟨Nat.le_trans (VaP.fine_of h.1).txt (by omega), Nat.le_trans (VaP.fine_of h.2).txt (by omega)⟩
  have C := fun (w' : World) (h : Below w.heap.size w w') => vcompare_any t o a b cap cap' w' (hw.1.below h) (ht.lift h) (ho.lift h) (fun h0 => by
    obtain ⟨h1, h2, -, -⟩ := VaP.both_split h0
    obtain ⟨l1, l2⟩ := hl ⟨h1, h2⟩
    exact ⟨(VaP.like_fit ht.fit l1).1, (VaP.like_fit ht.fit l1).2, (VaP.like_fit ho.fit l2).1, (VaP.like_fit ho.fit l2).2⟩)
  have O := fun (w' : World) (h : Below w.heap.size w w') => vorder_any t o a b cap cap' w' (hw.1.below h) (ht.lift h) (ho.lift h) (fun h0 => by
    obtain ⟨h1, h2, -, -⟩ := VaP.both_split h0
    exact hl ⟨h1, h2⟩)
  have E1 := fun (w' : World) (h : Below w.heap.size w w') => rverr_any t a cap w' (hw.1.below h) (hw.2.below h) (ht.lift h)
  have E2 := fun (w' : World) (h : Below w.heap.size w w') => rverr_any o b cap' w' (hw.1.below h) (hw.2.below h) (ho.lift h)
  have RC := fun (h0 : VaP.bothV t o 3 = 0) (w' : World) (h : Below w.heap.size w w') => rcmp_all t o a b cap cap' w' (Nat.lt_of_lt_of_le hw0 h.size) h0
  have RO := fun (h0 : VaP.bothV t o 4 = 0) (w' : World) (h : Below w.heap.size w w') => rord_all t o a b cap cap' w' (Nat.lt_of_lt_of_le hw0 h.size) h0
  have hB := VaP.both_cases t o
  have hN : VaP.bothV t o 3 = 0 ∨ VaP.cmpV t o = 0 := by
    by_cases h : VaP.bothV t o 3 = 0
    · exact .inl h
    · right; unfold VaP.cmpV; rw [if_pos h]
  have hM : VaP.bothV t o 4 = 0 ∨ VaP.ordV t o = 0 := by
    by_cases h : VaP.bothV t o 4 = 0
    · exact .inl h
    · right; unfold VaP.ordV; rw [if_pos h]
  clear hl ht ho
  generalize VaP.bothV t o 3 = B3 at *
  generalize VaP.bothV t o 4 = B4 at *
  generalize VaP.cmpV t o = N at *
  generalize VaP.ordV t o = M at *
  generalize VaP.vErr t = e1 at *
  generalize VaP.vErr o = e2 at *
  obtain ⟨k, ⟨n1, n2⟩, tx, on, cd, rw', cl, its⟩ := t
  obtain ⟨k2, ⟨m1, m2⟩, tx2, on2, cd2, rw2, cl2, its2⟩ := o
  unfold vtV at *
  dsimp only at *
  generalize its.length = L1 at *
  generalize its2.length = L2 at *
  refine enter env_ok Tryz.func7 rfl Tryz.results7 Tryz.ntmps7 [] [] [.agg [.int .i64 k, .str n1, .str n2, .str tx, .bool on, .int .i64 cd, .int .i64 rw', .int .i64 cl, .any (.slice a L1 cap)], .agg [.int .i64 k2, .str m1, .str m2, .str tx2, .bool on2, .int .i64 cd2, .int .i64 rw2, .int .i64 cl2, .any (.slice b L2 cap')]] ⟨⟨trivial, trivial, trivial, trivial, trivial, trivial, trivial, trivial, rfl, trivial⟩, ⟨trivial, trivial, trivial, trivial, trivial, trivial, trivial, trivial, rfl, trivial⟩, trivial⟩ (Nat.le_of_ble_eq_true rfl) w _ 1000 ?_
  repeat' (first | ((with_reducible first | show wpS .. | show putD .. | show putW .. | show splitG .. | show wpQ .. | show wpD .. | show wpX .. | show expX .. | show stepX .. | show keepR .. | show wpY ..); conv => whnf) | ((with_reducible show RetN ..); refine retB fun β => ?_) | ((with_reducible show _ ∧ _); first | (refine ⟨fun h => absurd h (by first | omega | decide), fun _ => ?_⟩) | (refine ⟨fun _ => ?_, fun h => absurd h (by first | omega | decide)⟩) | (refine ⟨fun _ => ?_, fun _ => ?_⟩) | (apply And.intro; · kernel_rfl) | (apply And.intro; · (show inK _ _; unfold inK; omega)) | (apply And.intro; · (show (_ : Int) ≤ 9223372036854775807; (try simp only [lenS]); omega))) | ((with_reducible show AllBe ..); refine allBe fun βe => ?_; conv => whnf) | ((with_reducible show bothX ..); refine bothI ?_ ?_; conv => whnf) | (with_reducible exact trivial) | ((with_reducible show CallN ..); refine call_of env_ok rfl 1000 ?_) | ((with_reducible show XopN ..); refine xop_of env_ok rfl 1000 ?_) | ((with_reducible show CallX ..); first | (refine callX (.lit true) (by kernel_rfl) rfl (trivial) (fun β w hm => V w hm.below) ?_) | (refine callX (.tup [.int .i64 N, .int .i64 B3]) (by kernel_rfl) rfl (⟨trivial, trivial, trivial⟩) (fun β w hm => C w hm.below) ?_) | (refine callX (.tup [.int .i64 M, .int .i64 B4]) (by kernel_rfl) rfl (⟨trivial, trivial, trivial⟩) (fun β w hm => O w hm.below) ?_) | (refine callX (.int .i64 e1) (by kernel_rfl) rfl (trivial) (fun β w hm => E1 w hm.below) ?_) | (refine callX (.int .i64 e2) (by kernel_rfl) rfl (trivial) (fun β w hm => E2 w hm.below) ?_) | (refine callX (.int .i64 N) (by kernel_rfl) rfl (trivial) (fun β w hm => RC (by omega) w hm.below) ?_) | (refine callX (.int .i64 M) (by kernel_rfl) rfl (trivial) (fun β w hm => RO (by omega) w hm.below) ?_)) | ((with_reducible show OpX ..); first | fail) | ((with_reducible show ∃ _ : SV, _); first | (refine ⟨.int .i64 N, by kernel_rfl, trivial, fun β w hm => RC (by omega) w hm.below, ?_⟩) | (refine ⟨.int .i64 M, by kernel_rfl, trivial, fun β w hm => RO (by omega) w hm.below, ?_⟩)) | ((with_reducible show ∃ _, _); first | fail))
  all_goals first | (exfalso; omega) | rfl | (simp [SV.den]; done) | trace_state
end Go.Proofs.YtdkhkfdenlabaaaGreatDoor
