/- The law of reading decimal numbers. -/
import Derived.Test.YtfodbfbljeeojaaGreatDoorEExD5
import Derived.Test.YtfodbfbljeeojaaGreatDoorEExQ5
set_option linter.unusedSimpArgs false
set_option linter.unusedVariables false
namespace Go.Proofs.YtfodbfbljeeojaaGreatDoor
open Go.RowKit
open Sym
attribute [local irreducible] Calls Sym.AggEq ExP.nd ExP.dig ExP.upd ExP.writeF ExP.writeE
section
attribute [local semireducible] ExP.writeF ExP.writeE
theorem ExP.write_bad {x : ExP.Num} (h : ExP.writeE x ≠ 0) : ExP.writeF x = ([], []) := by
  unfold ExP.writeE at h
  unfold ExP.writeF
  by_cases h0 : x.n = 0
  · rw [if_pos h0] at h; exact absurd rfl h
  · rw [if_neg h0] at h ⊢
    by_cases h1 : ExP.overP x
    · rw [if_pos h1]
    · rw [if_neg h1] at h; exact absurd rfl h
end
set_option maxRecDepth 100000 in
theorem readDec_long (s : List UInt8) (w : World) (h : 1000 < s.length) : Calls Tryz.prog 37 #[.string (bstr s)] w (FrOutE .i64 10 ⟨false, 0, 0⟩ 3 w) := by
  refine enter env_ok Tryz.func37 rfl Tryz.results37 Tryz.ntmps37 [] [] [.str s] (by simp [SV.oks, SV.ok]) (Nat.le_of_ble_eq_true rfl) w _ 1000 ?_
  repeat' (first | ((with_reducible first | show wpS _ _ _ _ | show putD _ _ _ _ | show putW _ _ _ _ | show splitG _ _ _ | show wpQ _ _ _ _ _ _ | show wpD _ _ _ _ _ _ _ | show wpX _ _ _ _ _ _ _ | show expX _ _ _ _ _ _ | show stepX _ _ _ _ | show keepR _ _ _ | show wpY _ _ _ _); conv => whnf) | ((with_reducible show RetN _ _ _); refine retB fun β => ?_) | ((with_reducible show _ ∧ _); first | (apply And.intro; (· intro h; exfalso; first | omega | (revert h; decide)); intro _) | (apply And.intro; rotate_left; (· intro h; exfalso; first | omega | (revert h; decide)); intro _) | (refine ⟨fun _ => ?_, fun _ => ?_⟩) | (apply And.intro; · kernel_rfl) | (apply And.intro; · (show inK _ _; unfold inK; omega)) | (apply And.intro; · (show (_ : Int) ≤ 9223372036854775807; (try simp only [List.length_append, List.length_drop, List.length_take, List.length_cons, List.length_nil]); omega))) | ((with_reducible show AllBe _); refine allBe fun βe => ?_; conv => whnf) | ((with_reducible show bothX _ _); refine bothI ?_ ?_; conv => whnf) | (with_reducible exact trivial) | ((with_reducible show CallN _ _ _ _ _ _ _ _); refine call_of env_ok rfl 1000 ?_) | ((with_reducible show XopN _ _ _ _ _ _); refine xop_of env_ok rfl 1000 ?_) | ((with_reducible show CallX _ _ _ _ _ _); first | fail) | ((with_reducible show OpX _ _ _ _); first | fail) | ((with_reducible show ∃ _ : SV, _); first | fail) | ((with_reducible show ∃ _, _); first | fail))
  all_goals first | (exfalso; omega) | skip
  all_goals refine ret fun β w' hm => ?_
  all_goals exact FrOutE0 rfl hm.below
theorem readDec_law (s : List UInt8) (w : World) (hw0 : 0 < w.heap.size) : Calls Tryz.prog 37 #[.string (bstr s)] w (FrOutE .i64 10 (if ExP.parE s = 0 then ExP.decN s else ⟨false, 0, 0⟩) (if ExP.parE s = 0 then ExP.writeE (ExP.decN s) else ExP.parE s) w) := by
  have hE : ExP.parE s = if 1000 < s.length then 3 else if ExP.parX (ExP.runR (ExP.cutM s).1) = true ∨ ExP.decW s = [] ∨ ExP.expB (ExP.decT s) = false then 10 else 0 := rfl
  by_cases h : 1000 < s.length
  · rw [if_pos h] at hE
    rw [hE]
    exact readDec_long s w h
  rw [if_neg h] at hE
  refine readDec_any s _ _ w hw0 (by omega) (ExP.decW s) (ExP.decP s) (ExP.decT s) (ExP.cutM s).1 (ExP.cutM s).2 rfl rfl rfl rfl (fun hx => ?_) (fun _ hx => ?_) (fun _ hx => ?_) (fun h1 h2 h3 => ?_)
  · rw [if_pos (.inl hx)] at hE; rw [hE]; exact ⟨rfl, rfl⟩
  · rw [if_pos (.inr (.inl hx))] at hE; rw [hE]; exact ⟨rfl, rfl⟩
  · rw [if_pos (.inr (.inr hx))] at hE; rw [hE]; exact ⟨rfl, rfl⟩
  · rw [if_neg (fun h => h.elim h1 (fun h => h.elim h2 (fun h => by rw [h3] at h; cases h)))] at hE
    rw [hE]
    exact ⟨rfl, rfl⟩
theorem decI (s : List UInt8) (h : ExP.parE s = 0) : OpI (ExP.decN s) (ExP.writeF (ExP.decN s)) (ExP.writeE (ExP.decN s)) := by
  have hE : ExP.parE s = if 1000 < s.length then 3 else if ExP.parX (ExP.runR (ExP.cutM s).1) = true ∨ ExP.decW s = [] ∨ ExP.expB (ExP.decT s) = false then 10 else 0 := rfl
  rw [h] at hE
  have hs : s.length ≤ 1000 := by
    rcases Nat.lt_or_ge 1000 s.length with h1 | h1
    · rw [if_pos h1] at hE; cases hE
    · exact h1
  rw [if_neg (by omega)] at hE
  have hb : ExP.expB (ExP.decT s) = true := by
    cases hb : ExP.expB (ExP.decT s) with
    | true => rfl
    | false => rw [if_pos (.inr (.inr hb))] at hE; cases hE
  have hv := ExP.expV_le _ hb
  have hL := cutM_len s
  have hR := ExP.run_len (ExP.cutM s).1
  have hP : (ExP.decW s).length + (ExP.decP s).length ≤ 1000 ∧ (ExP.decP s).all ExP.digC = true := by
    unfold ExP.decP ExP.parD ExP.decW
    split
    · have h1 := ExP.run_len (ExP.runR (ExP.cutM s).1).tail
      have h2 : (ExP.runR (ExP.cutM s).1).tail.length ≤ (ExP.runR (ExP.cutM s).1).length := by simp
      exact ⟨by omega, ExP.runD_all _⟩
    · exact ⟨by simp; omega, rfl⟩
  have ha : (ExP.decW s ++ ExP.decP s).all ExP.digC = true := by rw [List.all_append, hP.2, show (ExP.decW s).all ExP.digC = true from ExP.runD_all _]; rfl
  have hn := ExP.nd_val (b := 10) (by omega) ha
  rw [List.length_append] at hn
  have hN : ExP.decN s = ExP.scaleN ⟨(ExP.cutM s).2, ExP.valS (ExP.decW s ++ ExP.decP s), 1⟩ (ExP.expV (ExP.decT s) - ((ExP.decP s).length : Int)) := rfl
  generalize ExP.decN s = N at *
  generalize ExP.valS (ExP.decW s ++ ExP.decP s) = V at *
  obtain ⟨k, hk⟩ : ∃ k, k = (ExP.expV (ExP.decT s) - ((ExP.decP s).length : Int)).natAbs := ⟨_, rfl⟩
  have hk2 : k ≤ 2000 := by omega
  have hnt := ExP.nd_ten10 k
  have hnm := ExP.nd_mul (b := 10) (x := V) (y := 10 ^ k) (by omega)
  have hn1 : ExP.nd 10 1 = 1 := ExP.nd_one (by omega)
  rw [ExP.scaleN, ← hk] at hN
  split at hN
  · subst hN
    exact ⟨by dsimp only; rw [Nat.one_mul]; exact Nat.pow_pos (by omega), by dsimp only; omega, by dsimp only; rw [Nat.one_mul]; omega, rfl, rfl⟩
  · subst hN
    exact ⟨by dsimp only; omega, by dsimp only; omega, by dsimp only; omega, rfl, rfl⟩
set_option maxRecDepth 100000 in
set_option maxHeartbeats 4000000 in
theorem parseLaw_any (s : List UInt8) (w : World) (hw : XW w) (hw0 : 0 < w.heap.size) (hs : s.length ≤ 9223372036854775807) :
    Calls Tryz.prog 6 #[.string (bstr s)] w fun e w' => e = .returned (.bool true) ∧ Below w.heap.size w w' := by
  have A0 := fun (w' : World) (h : Below w.heap.size w w') => fractions_any w' (hw.below h) (Nat.lt_of_lt_of_le hw0 h.size)
  have A1 := fun (w' : World) (h : Below w.heap.size w w') => parse_law s w' (hw.below h) (Nat.lt_of_lt_of_le hw0 h.size) hs
  have A2 := fun (w' : World) (h : Below w.heap.size w w') => readDec_law s w' (Nat.lt_of_lt_of_le hw0 h.size)
  have LF := fun (F : ExP.Fr) (E : Int) (x : FrV) (w' : World) (h : Below w.heap.size w w') (hx : FrIn .i64 10 x w') (hO : OpI x.num F E) => lfrac_any F E x w' (Nat.lt_of_lt_of_le hw0 h.size) hx hO.d hO.n1 hO.n2 hO.hF hO.hE
  by_cases hE : ExP.parE s = 0
  · simp only [if_pos hE] at A1 A2
    have I := decI s hE
    have hwb := ExP.write_bad (x := ExP.decN s)
    generalize ExP.decN s = N at *
    generalize ExP.writeF N = F at *
    generalize ExP.writeE N = E at *
    obtain ⟨F1, F2⟩ := F
    obtain ⟨m, n, d⟩ := N
    by_cases hE0 : E = 0
    · subst hE0
      refine enter env_ok Tryz.func6 rfl Tryz.results6 Tryz.ntmps6 [] [] [.str s] (by simp [SV.oks, SV.ok]) (Nat.le_of_ble_eq_true rfl) w _ 1000 ?_
      repeat' (first | ((with_reducible first | show wpS _ _ _ _ | show putD _ _ _ _ | show putW _ _ _ _ | show splitG _ _ _ | show wpQ _ _ _ _ _ _ | show wpD _ _ _ _ _ _ _ | show wpX _ _ _ _ _ _ _ | show expX _ _ _ _ _ _ | show stepX _ _ _ _ | show keepR _ _ _ | show wpY _ _ _ _); conv => whnf) | ((with_reducible show RetN _ _ _); refine retB fun β => ?_) | ((with_reducible show _ ∧ _); first | (apply And.intro; (· intro h; exfalso; first | omega | (revert h; decide)); intro _) | (apply And.intro; rotate_left; (· intro h; exfalso; first | omega | (revert h; decide)); intro _) | (refine ⟨fun _ => ?_, fun _ => ?_⟩) | (apply And.intro; · kernel_rfl) | (apply And.intro; · (show inK _ _; unfold inK; omega)) | (apply And.intro; · (show (_ : Int) ≤ 9223372036854775807; (try simp only [List.length_append, List.length_drop, List.length_take, List.length_cons, List.length_nil]); omega))) | ((with_reducible show AllBe _); refine allBe fun βe => ?_; conv => whnf) | ((with_reducible show bothX _ _); refine bothI ?_ ?_; conv => whnf) | (with_reducible exact trivial) | ((with_reducible show CallN _ _ _ _ _ _ _ _); refine call_of env_ok rfl 1000 ?_) | ((with_reducible show XopN _ _ _ _ _ _); refine xop_of env_ok rfl 1000 ?_) | ((with_reducible show CallX _ _ _ _ _ _); first | (refine callX (.lit true) (by kernel_rfl) rfl (trivial) (fun β w hm => A0 w hm.below) ?_) | (refine callX (.tup [.agg [.str F1, .str F2], .int .i64 0]) (by kernel_rfl) rfl (⟨⟨trivial, trivial, trivial⟩, trivial, trivial⟩) (fun β w hm => A1 w hm.below) ?_) | (refine callFrE .i64 10 ⟨m, n, d⟩ 0 hw0 (by kernel_rfl) rfl (fun β w' hm => A2 w' hm.below) (fun a1 c1 a2 c2 hcap => ?_)) | (refine callX (.lit true) (by kernel_rfl) rfl (trivial) (fun β w hm => LF (F1, F2) 0 ⟨m, n, d, a1, c1, a2, c2⟩ w hm.below (FrIn.of (by first | exact hm.slF 1 rfl | exact hm.slF 2 rfl) (by first | exact hm.slF 1 rfl | exact hm.slF 2 rfl) hcap) I) ?_)) | ((with_reducible show OpX _ _ _ _); first | fail) | ((with_reducible show ∃ _ : SV, _); first | fail) | ((with_reducible show ∃ _, _); first | (refine ⟨true, fracAggT _ _, ?_⟩) | fail))
      all_goals first | rfl | (exfalso; omega) | (simp [SV.den]; done)
    · have h2 := hwb hE0
      cases h2
      refine enter env_ok Tryz.func6 rfl Tryz.results6 Tryz.ntmps6 [] [] [.str s] (by simp [SV.oks, SV.ok]) (Nat.le_of_ble_eq_true rfl) w _ 1000 ?_
      repeat' (first | ((with_reducible first | show wpS _ _ _ _ | show putD _ _ _ _ | show putW _ _ _ _ | show splitG _ _ _ | show wpQ _ _ _ _ _ _ | show wpD _ _ _ _ _ _ _ | show wpX _ _ _ _ _ _ _ | show expX _ _ _ _ _ _ | show stepX _ _ _ _ | show keepR _ _ _ | show wpY _ _ _ _); conv => whnf) | ((with_reducible show RetN _ _ _); refine retB fun β => ?_) | ((with_reducible show _ ∧ _); first | (apply And.intro; (· intro h; exfalso; first | omega | (revert h; decide)); intro _) | (apply And.intro; rotate_left; (· intro h; exfalso; first | omega | (revert h; decide)); intro _) | (refine ⟨fun _ => ?_, fun _ => ?_⟩) | (apply And.intro; · kernel_rfl) | (apply And.intro; · (show inK _ _; unfold inK; omega)) | (apply And.intro; · (show (_ : Int) ≤ 9223372036854775807; (try simp only [List.length_append, List.length_drop, List.length_take, List.length_cons, List.length_nil]); omega))) | ((with_reducible show AllBe _); refine allBe fun βe => ?_; conv => whnf) | ((with_reducible show bothX _ _); refine bothI ?_ ?_; conv => whnf) | (with_reducible exact trivial) | ((with_reducible show CallN _ _ _ _ _ _ _ _); refine call_of env_ok rfl 1000 ?_) | ((with_reducible show XopN _ _ _ _ _ _); refine xop_of env_ok rfl 1000 ?_) | ((with_reducible show CallX _ _ _ _ _ _); first | (refine callX (.lit true) (by kernel_rfl) rfl (trivial) (fun β w hm => A0 w hm.below) ?_) | (refine callX (.tup [.agg [.str [], .str []], .int .i64 E]) (by kernel_rfl) rfl (⟨⟨trivial, trivial, trivial⟩, trivial, trivial⟩) (fun β w hm => A1 w hm.below) ?_) | (refine callFrE .i64 10 ⟨m, n, d⟩ E hw0 (by kernel_rfl) rfl (fun β w' hm => A2 w' hm.below) (fun a1 c1 a2 c2 hcap => ?_))) | ((with_reducible show OpX _ _ _ _); first | fail) | ((with_reducible show ∃ _ : SV, _); first | fail) | ((with_reducible show ∃ _, _); first | (refine ⟨true, fracAggT _ _, ?_⟩) | fail))
      all_goals first | rfl | (exfalso; omega) | (simp [SV.den]; done)
  · simp only [if_neg hE] at A1 A2
    generalize ExP.parE s = E at *
    refine enter env_ok Tryz.func6 rfl Tryz.results6 Tryz.ntmps6 [] [] [.str s] (by simp [SV.oks, SV.ok]) (Nat.le_of_ble_eq_true rfl) w _ 1000 ?_
    repeat' (first | ((with_reducible first | show wpS _ _ _ _ | show putD _ _ _ _ | show putW _ _ _ _ | show splitG _ _ _ | show wpQ _ _ _ _ _ _ | show wpD _ _ _ _ _ _ _ | show wpX _ _ _ _ _ _ _ | show expX _ _ _ _ _ _ | show stepX _ _ _ _ | show keepR _ _ _ | show wpY _ _ _ _); conv => whnf) | ((with_reducible show RetN _ _ _); refine retB fun β => ?_) | ((with_reducible show _ ∧ _); first | (apply And.intro; (· intro h; exfalso; first | omega | (revert h; decide)); intro _) | (apply And.intro; rotate_left; (· intro h; exfalso; first | omega | (revert h; decide)); intro _) | (refine ⟨fun _ => ?_, fun _ => ?_⟩) | (apply And.intro; · kernel_rfl) | (apply And.intro; · (show inK _ _; unfold inK; omega)) | (apply And.intro; · (show (_ : Int) ≤ 9223372036854775807; (try simp only [List.length_append, List.length_drop, List.length_take, List.length_cons, List.length_nil]); omega))) | ((with_reducible show AllBe _); refine allBe fun βe => ?_; conv => whnf) | ((with_reducible show bothX _ _); refine bothI ?_ ?_; conv => whnf) | (with_reducible exact trivial) | ((with_reducible show CallN _ _ _ _ _ _ _ _); refine call_of env_ok rfl 1000 ?_) | ((with_reducible show XopN _ _ _ _ _ _); refine xop_of env_ok rfl 1000 ?_) | ((with_reducible show CallX _ _ _ _ _ _); first | (refine callX (.lit true) (by kernel_rfl) rfl (trivial) (fun β w hm => A0 w hm.below) ?_) | (refine callX (.tup [.agg [.str [], .str []], .int .i64 E]) (by kernel_rfl) rfl (⟨⟨trivial, trivial, trivial⟩, trivial, trivial⟩) (fun β w hm => A1 w hm.below) ?_) | (refine callFrE .i64 10 ⟨false, 0, 0⟩ E hw0 (by kernel_rfl) rfl (fun β w' hm => A2 w' hm.below) (fun a1 c1 a2 c2 hcap => ?_))) | ((with_reducible show OpX _ _ _ _); first | fail) | ((with_reducible show ∃ _ : SV, _); first | fail) | ((with_reducible show ∃ _, _); first | (refine ⟨true, fracAggT _ _, ?_⟩) | fail))
    all_goals first | rfl | (exfalso; omega) | (simp [SV.den]; done)
end Go.Proofs.YtfodbfbljeeojaaGreatDoor
