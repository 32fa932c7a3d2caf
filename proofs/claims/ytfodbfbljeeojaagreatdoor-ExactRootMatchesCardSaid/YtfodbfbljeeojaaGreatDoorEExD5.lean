/- Decimal numbers read: the reference's ReadDecimal. -/
import Derived.Test.YtfodbfbljeeojaaGreatDoorEExD4
import Derived.Test.YtfodbfbljeeojaaGreatDoorEExD2
set_option linter.unusedSimpArgs false
set_option linter.unusedVariables false
namespace Go.Proofs.YtfodbfbljeeojaaGreatDoor
open Go.RowKit
open Sym
attribute [local irreducible] Calls Sym.AggEq ExP.nd ExP.dig ExP.upd ExP.writeF ExP.writeE
theorem cut_tail (s : List UInt8) : ExP.cutM s = (if s.head? = some 45 then s.tail else s, s.head? == some 45) := by
  unfold ExP.cutM
  by_cases h : s.head? = some 45
  · rw [if_pos h, if_pos h, h]; rfl
  · rw [if_neg h, if_neg h, beq_eq_false_iff_ne.2 h]
theorem head_cons {s : List UInt8} {c : UInt8} (h : s.head? = some c) : s = c :: s.tail := by
  cases s with
  | nil => cases h
  | cons d r => simp at h; subst h; rfl
set_option maxRecDepth 100000 in
set_option maxHeartbeats 8000000 in
theorem readDec_any (s : List UInt8) (N0 : ExP.Num) (E0 : Int) (w : World) (hw0 : 0 < w.heap.size) (hs : s.length ≤ 1000) (W P T rest : List UInt8) (m : Bool)
    (hcut : ExP.cutM s = (rest, m)) (hW : W = ExP.runD rest) (hP : P = ExP.parD (ExP.runR rest)) (hT : T = ExP.parR (ExP.runR rest))
    (hX : ExP.parX (ExP.runR rest) = true → N0 = ⟨false, 0, 0⟩ ∧ E0 = 10)
    (hXW : ExP.parX (ExP.runR rest) ≠ true → W = [] → N0 = ⟨false, 0, 0⟩ ∧ E0 = 10)
    (hXB : ExP.parX (ExP.runR rest) ≠ true → ExP.expB T = false → N0 = ⟨false, 0, 0⟩ ∧ E0 = 10)
    (hG : ExP.parX (ExP.runR rest) ≠ true → W ≠ [] → ExP.expB T = true → N0 = ExP.scaleN ⟨m, ExP.valS (W ++ P), 1⟩ (ExP.expV T - (P.length : Int)) ∧ E0 = ExP.writeE N0) :
    Calls Tryz.prog 37 #[.string (bstr s)] w (FrOutE .i64 10 N0 E0 w) := by
  have hlen := cutM_len s
  rw [hcut] at hlen
  dsimp only at hlen
  have hR := ExP.run_len rest
  have hr1 := ExP.run_take' rest
  have hr2 := ExP.run_drop rest
  refine enter env_ok Tryz.func37 rfl Tryz.results37 Tryz.ntmps37 [20] [] [.str s] (by simp [SV.oks, SV.ok]) (Nat.le_of_ble_eq_true rfl) w _ 1000 ?_
  have HH := fun w => has_any s 45 w (by omega)
  repeat' (first | ((with_reducible first | show wpS _ _ _ _ | show putD _ _ _ _ | show putW _ _ _ _ | show splitG _ _ _ | show wpQ _ _ _ _ _ _ | show wpD _ _ _ _ _ _ _ | show wpX _ _ _ _ _ _ _ | show expX _ _ _ _ _ _ | show stepX _ _ _ _ | show keepR _ _ _ | show wpY _ _ _ _); conv => whnf) | ((with_reducible show RetN _ _ _); refine retB fun β => ?_) | ((with_reducible show _ ∧ _); first | (apply And.intro; (· intro h; exfalso; first | omega | (revert h; decide)); intro _) | (apply And.intro; rotate_left; (· intro h; exfalso; first | omega | (revert h; decide)); intro _) | (refine ⟨fun _ => ?_, fun _ => ?_⟩) | (apply And.intro; · kernel_rfl) | (apply And.intro; · (show inK _ _; unfold inK; omega)) | (apply And.intro; · (show (_ : Int) ≤ 9223372036854775807; (try simp only [List.length_append, List.length_drop, List.length_take, List.length_cons, List.length_nil]); omega))) | ((with_reducible show AllBe _); refine allBe fun βe => ?_; conv => whnf) | ((with_reducible show bothX _ _); refine bothI ?_ ?_; conv => whnf) | (with_reducible exact trivial) | ((with_reducible show CallN _ _ _ _ _ _ _ _); refine call_of env_ok rfl 1000 ?_) | ((with_reducible show XopN _ _ _ _ _ _); refine xop_of env_ok rfl 1000 ?_) | ((with_reducible show CallX _ _ _ _ _ _); first | (refine callX (.bool (s.head? == some 45)) (by kernel_rfl) rfl (trivial) (fun β w hm => HH w) ?_)) | ((with_reducible show OpX _ _ _ _); first | fail) | ((with_reducible show ∃ _ : SV, _); first | fail) | ((with_reducible show ∃ _, _); first | fail))
  all_goals first | (exfalso; omega) | skip
  refine join env_ok rfl (T := Unit) (fun _ => ⟨[(0, .str s), (2, .ptr 0 0), (4, .str rest), (5, .bool m)], [(0, true, .cells 36 [.lit false, .any (.slice none 0 0), .any (.slice none 0 0)])], 1, 106⟩) 1000 1000 [] [] [32] [] (fun _ => Nat.zero_le _) (fun I hI => ?_) (fun _ => ?_)
  · rw [cut_tail] at hcut
    by_cases h45 : s.head? = some 45
    · rw [if_pos h45, h45] at hcut
      simp only [Prod.mk.injEq] at hcut
      obtain ⟨h1, rfl⟩ := hcut
      have hse := head_cons h45
      rw [h1] at hse
      subst hse
      repeat' (first | ((with_reducible first | show wpS _ _ _ _ | show putD _ _ _ _ | show putW _ _ _ _ | show splitG _ _ _ | show wpQ _ _ _ _ _ _ | show wpD _ _ _ _ _ _ _ | show wpX _ _ _ _ _ _ _ | show expX _ _ _ _ _ _ | show stepX _ _ _ _ | show keepR _ _ _ | show wpY _ _ _ _); conv => whnf) | ((with_reducible show RetN _ _ _); refine retB fun β => ?_) | ((with_reducible show _ ∧ _); first | (apply And.intro; (· intro h; exfalso; first | omega | (revert h; decide)); intro _) | (apply And.intro; rotate_left; (· intro h; exfalso; first | omega | (revert h; decide)); intro _) | (refine ⟨fun _ => ?_, fun _ => ?_⟩) | (apply And.intro; · kernel_rfl) | (apply And.intro; · (show inK _ _; unfold inK; omega)) | (apply And.intro; · (show (_ : Int) ≤ 9223372036854775807; (try simp only [List.length_append, List.length_drop, List.length_take, List.length_cons, List.length_nil]); omega))) | ((with_reducible show AllBe _); refine allBe fun βe => ?_; conv => whnf) | ((with_reducible show bothX _ _); refine bothI ?_ ?_; conv => whnf) | (with_reducible exact trivial) | ((with_reducible show CallN _ _ _ _ _ _ _ _); refine call_of env_ok rfl 1000 ?_) | ((with_reducible show XopN _ _ _ _ _ _); refine xop_of env_ok rfl 1000 ?_) | ((with_reducible show CallX _ _ _ _ _ _); first | fail) | ((with_reducible show OpX _ _ _ _); first | fail) | ((with_reducible show ∃ _ : SV, _); first | fail) | ((with_reducible show ∃ _, _); first | (refine ⟨1, rfl, by simp, ?_⟩) | fail))
      all_goals first | (exfalso; simp_all; done) | skip
      all_goals exact hI _ () (by (try dsimp only); ((with_reducible show wk _ _); repeat' (first | exact trivial | exact eqSV_refl _ | (refine eqI ?_) | (refine eqS ?_) | (with_reducible exact rfl) | apply And.intro | exact Nat.zero_lt_one | exact Nat.le_of_ble_eq_true rfl | (with_reducible assumption) | ((show (_ : Int) = _); (try dsimp only); omega) | ((show eqSV _ _); simp [eqSV, isB, bval, *]; done) | rfl)))
    · rw [if_neg h45, beq_eq_false_iff_ne.2 h45] at hcut
      simp only [Prod.mk.injEq] at hcut
      obtain ⟨rfl, rfl⟩ := hcut
      repeat' (first | ((with_reducible first | show wpS _ _ _ _ | show putD _ _ _ _ | show putW _ _ _ _ | show splitG _ _ _ | show wpQ _ _ _ _ _ _ | show wpD _ _ _ _ _ _ _ | show wpX _ _ _ _ _ _ _ | show expX _ _ _ _ _ _ | show stepX _ _ _ _ | show keepR _ _ _ | show wpY _ _ _ _); conv => whnf) | ((with_reducible show RetN _ _ _); refine retB fun β => ?_) | ((with_reducible show _ ∧ _); first | (apply And.intro; (· intro h; exfalso; first | omega | (revert h; decide)); intro _) | (apply And.intro; rotate_left; (· intro h; exfalso; first | omega | (revert h; decide)); intro _) | (refine ⟨fun _ => ?_, fun _ => ?_⟩) | (apply And.intro; · kernel_rfl) | (apply And.intro; · (show inK _ _; unfold inK; omega)) | (apply And.intro; · (show (_ : Int) ≤ 9223372036854775807; (try simp only [List.length_append, List.length_drop, List.length_take, List.length_cons, List.length_nil]); omega))) | ((with_reducible show AllBe _); refine allBe fun βe => ?_; conv => whnf) | ((with_reducible show bothX _ _); refine bothI ?_ ?_; conv => whnf) | (with_reducible exact trivial) | ((with_reducible show CallN _ _ _ _ _ _ _ _); refine call_of env_ok rfl 1000 ?_) | ((with_reducible show XopN _ _ _ _ _ _); refine xop_of env_ok rfl 1000 ?_) | ((with_reducible show CallX _ _ _ _ _ _); first | fail) | ((with_reducible show OpX _ _ _ _); first | fail) | ((with_reducible show ∃ _ : SV, _); first | fail) | ((with_reducible show ∃ _, _); first | (refine ⟨1, rfl, by simp, ?_⟩) | fail))
      all_goals first | (exfalso; simp_all; done) | skip
      all_goals exact hI _ () (by (try dsimp only); ((with_reducible show wk _ _); repeat' (first | exact trivial | exact eqSV_refl _ | (refine eqI ?_) | (refine eqS ?_) | (with_reducible exact rfl) | apply And.intro | exact Nat.zero_lt_one | exact Nat.le_of_ble_eq_true rfl | (with_reducible assumption) | ((show (_ : Int) = _); (try dsimp only); omega) | ((show eqSV _ _); simp [eqSV, isB, bval, *]; done) | rfl)))
  clear HH hcut
  have HS := fun w => span_any rest w (by omega)
  rw [← hW] at HS hr1 hr2 hR
  have HD := fun w => has_any (ExP.runR rest) 46 w (by omega)
  generalize ExP.runR rest = r1 at *
  obtain ⟨n, hn⟩ : ∃ n, W.length = n := ⟨_, rfl⟩
  rw [hn] at HS hr1 hr2 hR
  repeat' (first | ((with_reducible first | show wpS _ _ _ _ | show putD _ _ _ _ | show putW _ _ _ _ | show splitG _ _ _ | show wpQ _ _ _ _ _ _ | show wpD _ _ _ _ _ _ _ | show wpX _ _ _ _ _ _ _ | show expX _ _ _ _ _ _ | show stepX _ _ _ _ | show keepR _ _ _ | show wpY _ _ _ _); conv => whnf) | ((with_reducible show RetN _ _ _); refine retB fun β => ?_) | ((with_reducible show _ ∧ _); first | (apply And.intro; (· intro h; exfalso; first | omega | (revert h; decide)); intro _) | (apply And.intro; rotate_left; (· intro h; exfalso; first | omega | (revert h; decide)); intro _) | (refine ⟨fun _ => ?_, fun _ => ?_⟩) | (apply And.intro; · kernel_rfl) | (apply And.intro; · (show inK _ _; unfold inK; omega)) | (apply And.intro; · (show (_ : Int) ≤ 9223372036854775807; (try simp only [List.length_append, List.length_drop, List.length_take, List.length_cons, List.length_nil]); omega))) | ((with_reducible show AllBe _); refine allBe fun βe => ?_; conv => whnf) | ((with_reducible show bothX _ _); refine bothI ?_ ?_; conv => whnf) | (with_reducible exact trivial) | ((with_reducible show CallN _ _ _ _ _ _ _ _); refine call_of env_ok rfl 1000 ?_) | ((with_reducible show XopN _ _ _ _ _ _); refine xop_of env_ok rfl 1000 ?_) | ((with_reducible show CallX _ _ _ _ _ _); first | (refine callX (.int .i64 (n : Nat)) (by kernel_rfl) rfl (trivial) (fun β w hm => HS w) ?_) | (refine callX (.bool (r1.head? == some 46)) (by kernel_rfl) rfl (trivial) (fun β w hm => HD w) ?_)) | ((with_reducible show OpX _ _ _ _); first | fail) | ((with_reducible show ∃ _ : SV, _); first | fail) | ((with_reducible show ∃ _, _); first | (refine ⟨n, rfl, by omega, ?_⟩; first | rw [hr1] | rw [hr2])))
  refine join env_ok rfl (T := {u : Unit // ExP.parX r1 ≠ true}) (fun _ => ⟨[(0, .str s), (2, .ptr 0 0), (4, .str T), (5, .bool m), (7, .str W), (8, .str P)], [(0, true, .cells 36 [.lit false, .any (.slice none 0 0), .any (.slice none 0 0)])], 1, 106⟩) 1000 1000 [] [] [48] [] (fun _ => Nat.zero_le _) (fun I hI => ?_) (fun t => ?_)
  · by_cases h46 : r1.head? = some 46
    · have e1 := head_cons h46
      have eX : ExP.parX r1 = (ExP.runD r1.tail).isEmpty := by unfold ExP.parX; rw [h46]; rfl
      rw [ExP.parD, if_pos h46] at hP
      rw [ExP.parR, if_pos h46] at hT
      have hQ := ExP.run_len r1.tail
      have hQ1 := ExP.run_take' r1.tail
      have hQ2 := ExP.run_drop r1.tail
      have HQ := fun w => span_any r1.tail w (by simp only [List.length_tail]; omega)
      rw [← hP] at HQ hQ1 hQ2 hQ eX
      rw [← hT] at hQ hQ2
      generalize r1.tail = u at *
      subst e1
      clear hP hT h46
      obtain ⟨q, hq⟩ : ∃ q, P.length = q := ⟨_, rfl⟩
      rw [hq] at HQ hQ1 hQ2 hQ
      have hq0 : q ≤ 1000 := by simp only [List.length_cons] at hR; omega
      have hS1 : List.drop 1 (List.take (1 + q) (46 :: u)) = P := by rw [Nat.add_comm]; simpa using hQ1
      have hS2 : List.drop (1 + q) (46 :: u) = T := by rw [Nat.add_comm]; simpa using hQ2
      have hl1 : (46 :: u : List UInt8).length = u.length + 1 := rfl
      repeat' (first | ((with_reducible first | show wpS _ _ _ _ | show putD _ _ _ _ | show putW _ _ _ _ | show splitG _ _ _ | show wpQ _ _ _ _ _ _ | show wpD _ _ _ _ _ _ _ | show wpX _ _ _ _ _ _ _ | show expX _ _ _ _ _ _ | show stepX _ _ _ _ | show keepR _ _ _ | show wpY _ _ _ _); conv => whnf) | ((with_reducible show RetN _ _ _); refine retB fun β => ?_) | ((with_reducible show _ ∧ _); first | (apply And.intro; (· intro h; exfalso; first | omega | (revert h; decide)); intro _) | (apply And.intro; rotate_left; (· intro h; exfalso; first | omega | (revert h; decide)); intro _) | (refine ⟨fun _ => ?_, fun _ => ?_⟩) | (apply And.intro; · kernel_rfl) | (apply And.intro; · (show inK _ _; unfold inK; omega)) | (apply And.intro; · (show (_ : Int) ≤ 9223372036854775807; (try simp only [List.length_append, List.length_drop, List.length_take, List.length_cons, List.length_nil]); omega))) | ((with_reducible show AllBe _); refine allBe fun βe => ?_; conv => whnf) | ((with_reducible show bothX _ _); refine bothI ?_ ?_; conv => whnf) | (with_reducible exact trivial) | ((with_reducible show CallN _ _ _ _ _ _ _ _); refine call_of env_ok rfl 1000 ?_) | ((with_reducible show XopN _ _ _ _ _ _); refine xop_of env_ok rfl 1000 ?_) | ((with_reducible show CallX _ _ _ _ _ _); first | (refine callX (.int .i64 (q : Nat)) (by kernel_rfl) rfl (trivial) (fun β w hm => HQ w) ?_)) | ((with_reducible show OpX _ _ _ _); first | fail) | ((with_reducible show ∃ _ : SV, _); first | fail) | ((with_reducible show ∃ _, _); first | (refine ⟨1, rfl, by simp, ?_⟩) | (refine ⟨1, 1 + q, rfl, by omega, by omega, by omega, ?_⟩; rw [hS1]) | (refine ⟨1 + q, by omega, by omega, ?_⟩; rw [hS2]) | fail))
      all_goals first | (exfalso; simp_all; done) | skip
      · rename_i hP0
        obtain ⟨rfl, rfl⟩ := hX (by rw [eX, hP0]; rfl)
        refine ret fun β w' hm => ?_
        exact FrOutE0 rfl hm.below
      · rename_i hP0
        exact hI _ ⟨(), by rw [eX]; simpa using hP0⟩ (by (try dsimp only); ((with_reducible show wk _ _); repeat' (first | exact trivial | exact eqSV_refl _ | (refine eqI ?_) | (refine eqS ?_) | (with_reducible exact rfl) | apply And.intro | exact Nat.zero_lt_one | exact Nat.le_of_ble_eq_true rfl | (with_reducible assumption) | ((show (_ : Int) = _); (try dsimp only); omega) | ((show eqSV _ _); simp [eqSV, isB, bval, *]; done) | rfl)))
    · rw [ExP.parD, if_neg h46] at hP
      rw [ExP.parR, if_neg h46] at hT
      subst hP hT
      have eX : ExP.parX T ≠ true := by unfold ExP.parX; rw [beq_eq_false_iff_ne.2 h46]; simp
      repeat' (first | ((with_reducible first | show wpS _ _ _ _ | show putD _ _ _ _ | show putW _ _ _ _ | show splitG _ _ _ | show wpQ _ _ _ _ _ _ | show wpD _ _ _ _ _ _ _ | show wpX _ _ _ _ _ _ _ | show expX _ _ _ _ _ _ | show stepX _ _ _ _ | show keepR _ _ _ | show wpY _ _ _ _); conv => whnf) | ((with_reducible show RetN _ _ _); refine retB fun β => ?_) | ((with_reducible show _ ∧ _); first | (apply And.intro; (· intro h; exfalso; first | omega | (revert h; decide)); intro _) | (apply And.intro; rotate_left; (· intro h; exfalso; first | omega | (revert h; decide)); intro _) | (refine ⟨fun _ => ?_, fun _ => ?_⟩) | (apply And.intro; · kernel_rfl) | (apply And.intro; · (show inK _ _; unfold inK; omega)) | (apply And.intro; · (show (_ : Int) ≤ 9223372036854775807; (try simp only [List.length_append, List.length_drop, List.length_take, List.length_cons, List.length_nil]); omega))) | ((with_reducible show AllBe _); refine allBe fun βe => ?_; conv => whnf) | ((with_reducible show bothX _ _); refine bothI ?_ ?_; conv => whnf) | (with_reducible exact trivial) | ((with_reducible show CallN _ _ _ _ _ _ _ _); refine call_of env_ok rfl 1000 ?_) | ((with_reducible show XopN _ _ _ _ _ _); refine xop_of env_ok rfl 1000 ?_) | ((with_reducible show CallX _ _ _ _ _ _); first | fail) | ((with_reducible show OpX _ _ _ _); first | fail) | ((with_reducible show ∃ _ : SV, _); first | fail) | ((with_reducible show ∃ _, _); first | fail))
      all_goals first | (exfalso; simp_all; done) | skip
      all_goals exact hI _ ⟨(), eX⟩ (by (try dsimp only); ((with_reducible show wk _ _); repeat' (first | exact trivial | exact eqSV_refl _ | (refine eqI ?_) | (refine eqS ?_) | (with_reducible exact rfl) | apply And.intro | exact Nat.zero_lt_one | exact Nat.le_of_ble_eq_true rfl | (with_reducible assumption) | ((show (_ : Int) = _); (try dsimp only); omega) | ((show eqSV _ _); simp [eqSV, isB, bval, *]; done) | rfl)))
  obtain ⟨_, hX0⟩ := t
  replace hXW := hXW hX0
  replace hXB := hXB hX0
  replace hG := hG hX0
  clear hX hX0
  have hTl : T.length ≤ 1000 := by
    rw [hT]; unfold ExP.parR
    split
    · rename_i h
      have h1 := ExP.run_len r1.tail
      have h2 : r1.tail.length ≤ r1.length := by simp
      omega
    · omega
  have hPl : P.length ≤ 1000 ∧ W.length + P.length ≤ 1000 := by
    rw [hP]; unfold ExP.parD
    split
    · have h1 := ExP.run_len r1.tail
      have h2 : r1.tail.length ≤ r1.length := by simp
      omega
    · simp; omega
  have hPa : P.all ExP.digC = true := by
    rw [hP]; unfold ExP.parD
    split
    · exact ExP.runD_all _
    · rfl
  have hWa : W.all ExP.digC = true := by rw [hW]; exact ExP.runD_all _
  clear hP hT hW hR hr1 hr2 HS HD hn
  repeat' (first | ((with_reducible first | show wpS _ _ _ _ | show putD _ _ _ _ | show putW _ _ _ _ | show splitG _ _ _ | show wpQ _ _ _ _ _ _ | show wpD _ _ _ _ _ _ _ | show wpX _ _ _ _ _ _ _ | show expX _ _ _ _ _ _ | show stepX _ _ _ _ | show keepR _ _ _ | show wpY _ _ _ _); conv => whnf) | ((with_reducible show RetN _ _ _); refine retB fun β => ?_) | ((with_reducible show _ ∧ _); first | (apply And.intro; (· intro h; exfalso; first | omega | (revert h; decide)); intro _) | (apply And.intro; rotate_left; (· intro h; exfalso; first | omega | (revert h; decide)); intro _) | (refine ⟨fun _ => ?_, fun _ => ?_⟩) | (apply And.intro; · kernel_rfl) | (apply And.intro; · (show inK _ _; unfold inK; omega)) | (apply And.intro; · (show (_ : Int) ≤ 9223372036854775807; (try simp only [List.length_append, List.length_drop, List.length_take, List.length_cons, List.length_nil]); omega))) | ((with_reducible show AllBe _); refine allBe fun βe => ?_; conv => whnf) | ((with_reducible show bothX _ _); refine bothI ?_ ?_; conv => whnf) | (with_reducible exact trivial) | ((with_reducible show CallN _ _ _ _ _ _ _ _); refine call_of env_ok rfl 1000 ?_) | ((with_reducible show XopN _ _ _ _ _ _); refine xop_of env_ok rfl 1000 ?_) | ((with_reducible show CallX _ _ _ _ _ _); first | fail) | ((with_reducible show OpX _ _ _ _); first | fail) | ((with_reducible show ∃ _ : SV, _); first | fail) | ((with_reducible show ∃ _, _); first | fail))
  refine join env_ok rfl (T := {u : Unit // ExP.expB T = true}) (fun _ => ⟨[(0, .str s), (2, .ptr 0 0), (5, .bool m), (7, .str W), (8, .str P), (9, .int .i64 (ExP.expV T))], [(0, true, .cells 36 [.lit false, .any (.slice none 0 0), .any (.slice none 0 0)])], 1, 106⟩) 1000 1000 [] [] [] [] (fun _ => Nat.zero_le _) (fun I hI => ?_) (fun t => ?_)
  · cases T with
    | nil =>
      repeat' (first | ((with_reducible first | show wpS _ _ _ _ | show putD _ _ _ _ | show putW _ _ _ _ | show splitG _ _ _ | show wpQ _ _ _ _ _ _ | show wpD _ _ _ _ _ _ _ | show wpX _ _ _ _ _ _ _ | show expX _ _ _ _ _ _ | show stepX _ _ _ _ | show keepR _ _ _ | show wpY _ _ _ _); conv => whnf) | ((with_reducible show RetN _ _ _); refine retB fun β => ?_) | ((with_reducible show _ ∧ _); first | (apply And.intro; (· intro h; exfalso; first | omega | (revert h; decide)); intro _) | (apply And.intro; rotate_left; (· intro h; exfalso; first | omega | (revert h; decide)); intro _) | (refine ⟨fun _ => ?_, fun _ => ?_⟩) | (apply And.intro; · kernel_rfl) | (apply And.intro; · (show inK _ _; unfold inK; omega)) | (apply And.intro; · (show (_ : Int) ≤ 9223372036854775807; (try simp only [List.length_append, List.length_drop, List.length_take, List.length_cons, List.length_nil]); omega))) | ((with_reducible show AllBe _); refine allBe fun βe => ?_; conv => whnf) | ((with_reducible show bothX _ _); refine bothI ?_ ?_; conv => whnf) | (with_reducible exact trivial) | ((with_reducible show CallN _ _ _ _ _ _ _ _); refine call_of env_ok rfl 1000 ?_) | ((with_reducible show XopN _ _ _ _ _ _); refine xop_of env_ok rfl 1000 ?_) | ((with_reducible show CallX _ _ _ _ _ _); first | fail) | ((with_reducible show OpX _ _ _ _); first | fail) | ((with_reducible show ∃ _ : SV, _); first | fail) | ((with_reducible show ∃ _, _); first | fail))
      all_goals first | (exfalso; simp_all; done) | skip
      all_goals exact hI _ ⟨(), rfl⟩ (by (try dsimp only); ((with_reducible show wk _ _); repeat' (first | exact trivial | exact eqSV_refl _ | (refine eqI ?_) | (refine eqS ?_) | (with_reducible exact rfl) | apply And.intro | exact Nat.zero_lt_one | exact Nat.le_of_ble_eq_true rfl | (with_reducible assumption) | ((show (_ : Int) = _); (try dsimp only); omega) | ((show eqSV _ _); simp [eqSV, isB, bval, *]; done) | rfl)))
    | cons c t =>
      have hB : ExP.expB (c :: t) = ((c == 101 || c == 69) && ExP.expOK (ExP.sgnR t)) := rfl
      have hV : ExP.expV (c :: t) = if ExP.sgnP t = true then -(ExP.valS (ExP.sgnR t) : Int) else (ExP.valS (ExP.sgnR t) : Int) := rfl
      have hc0 : ((c :: t : List UInt8).getD 0 0).toNat = c.toNat := rfl
      have hc8 := c.toNat_lt
      have htl : t.length ≤ 1000 := by simp only [List.length_cons] at hTl; omega
      by_cases hc : ¬(c = 101 ∨ c = 69)
      · have hce : (c == 101 || c == 69) = false := by
          simp only [not_or] at hc
          simp [hc.1, hc.2]
        have hcn : c.toNat ≠ 101 ∧ c.toNat ≠ 69 := ⟨fun e => hc (.inl (UInt8.toNat_inj.1 e)), fun e => hc (.inr (UInt8.toNat_inj.1 e))⟩
        rw [hce, Bool.false_and] at hB
        obtain ⟨rfl, rfl⟩ := hXB hB
        repeat' (first | ((with_reducible first | show wpS _ _ _ _ | show putD _ _ _ _ | show putW _ _ _ _ | show splitG _ _ _ | show wpQ _ _ _ _ _ _ | show wpD _ _ _ _ _ _ _ | show wpX _ _ _ _ _ _ _ | show expX _ _ _ _ _ _ | show stepX _ _ _ _ | show keepR _ _ _ | show wpY _ _ _ _); conv => whnf) | ((with_reducible show RetN _ _ _); refine retB fun β => ?_) | ((with_reducible show _ ∧ _); first | (apply And.intro; (· intro h; exfalso; first | omega | (revert h; decide)); intro _) | (apply And.intro; rotate_left; (· intro h; exfalso; first | omega | (revert h; decide)); intro _) | (refine ⟨fun _ => ?_, fun _ => ?_⟩) | (apply And.intro; · kernel_rfl) | (apply And.intro; · (show inK _ _; unfold inK; omega)) | (apply And.intro; · (show (_ : Int) ≤ 9223372036854775807; (try simp only [List.length_append, List.length_drop, List.length_take, List.length_cons, List.length_nil]); omega))) | ((with_reducible show AllBe _); refine allBe fun βe => ?_; conv => whnf) | ((with_reducible show bothX _ _); refine bothI ?_ ?_; conv => whnf) | (with_reducible exact trivial) | ((with_reducible show CallN _ _ _ _ _ _ _ _); refine call_of env_ok rfl 1000 ?_) | ((with_reducible show XopN _ _ _ _ _ _); refine xop_of env_ok rfl 1000 ?_) | ((with_reducible show CallX _ _ _ _ _ _); first | fail) | ((with_reducible show OpX _ _ _ _); first | fail) | ((with_reducible show ∃ _ : SV, _); first | fail) | ((with_reducible show ∃ _, _); first | (refine ⟨0, rfl, by simp, ?_⟩) | (refine ⟨1, rfl, by simp, ?_⟩) | fail))
        all_goals first | (exfalso; omega) | (exfalso; simp_all; done) | skip
        all_goals refine ret fun β w' hm => ?_
        all_goals exact FrOutE0 rfl hm.below
      replace hc := Decidable.not_not.1 hc
      have hce : (c == 101 || c == 69) = true := by rcases hc with rfl | rfl <;> rfl
      have hcn : c.toNat = 101 ∨ c.toNat = 69 := by rcases hc with rfl | rfl <;> simp
      rw [hce, Bool.true_and] at hB
      have hsP : ExP.sgnP t = (t.head? == some 45) := rfl
      have hsR : ExP.sgnR t = if t.head? = some 45 ∨ t.head? = some 43 then t.tail else t := rfl
      by_cases h45 : t.head? = some 45
      · obtain ⟨u, rfl⟩ : ∃ u, t = 45 :: u := ⟨_, head_cons h45⟩
        have e1 : ExP.sgnP (45 :: u) = true := rfl
        have e2 : ExP.sgnR (45 :: u) = u := rfl
        rw [e2] at hB
        have HH1 := fun w => has_any (45 :: u) 45 w (by omega)
        have HH2 := fun w => has_any (45 :: u) 43 w (by omega)
        rw [show (((45 : UInt8) :: u).head? == some 45) = true from rfl] at HH1
        rw [show (((45 : UInt8) :: u).head? == some 43) = false from rfl] at HH2
        have hul : u.length ≤ 1000 := by simp only [List.length_cons] at hTl; omega
        have HA := fun w => allDigits_any u w (by omega)
        have hK : ExP.expOK u = (!u.isEmpty && (u.all ExP.digC && decide (u.length ≤ 3))) := rfl
        by_cases hok : ExP.expOK u = true
        · obtain ⟨o1, o2, o3, o4, o5⟩ := ExP.expOK_run hok
          have hv := ExP.val3 hok
          have HM := fun w => small_any u w o4 o5
          have hi : (!u.isEmpty && u.all ExP.digC) = true := by rw [o5]; simpa using o1
          rw [hi] at HA
          rw [hok] at hB
          have hV2 : ExP.expV (c :: 45 :: u) = -(ExP.valS u : Int) := by rw [hV]; simp only [e1, e2, if_true]; try rfl
          clear hV hK
          generalize ExP.valS u = v at *
          have hdl : (List.drop 1 (c :: 45 :: u)).length = (45 :: u).length := rfl
          have hdl2 : (List.drop 1 (List.drop 1 (c :: 45 :: u))).length = (45 :: u).length - 1 := by simp
          have hdl3 : (45 :: u).length = u.length + 1 := rfl
          have hdn : ((List.drop 1 (c :: 45 :: u)).getD 0 0).toNat = 45 := rfl
          repeat' (first | ((with_reducible first | show wpS _ _ _ _ | show putD _ _ _ _ | show putW _ _ _ _ | show splitG _ _ _ | show wpQ _ _ _ _ _ _ | show wpD _ _ _ _ _ _ _ | show wpX _ _ _ _ _ _ _ | show expX _ _ _ _ _ _ | show stepX _ _ _ _ | show keepR _ _ _ | show wpY _ _ _ _); conv => whnf) | ((with_reducible show RetN _ _ _); refine retB fun β => ?_) | ((with_reducible show _ ∧ _); first | (apply And.intro; (· intro h; exfalso; first | omega | (revert h; decide)); intro _) | (apply And.intro; rotate_left; (· intro h; exfalso; first | omega | (revert h; decide)); intro _) | (refine ⟨fun _ => ?_, fun _ => ?_⟩) | (apply And.intro; · kernel_rfl) | (apply And.intro; · (show inK _ _; unfold inK; omega)) | (apply And.intro; · (show (_ : Int) ≤ 9223372036854775807; (try simp only [List.length_append, List.length_drop, List.length_take, List.length_cons, List.length_nil]); omega))) | ((with_reducible show AllBe _); refine allBe fun βe => ?_; conv => whnf) | ((with_reducible show bothX _ _); refine bothI ?_ ?_; conv => whnf) | (with_reducible exact trivial) | ((with_reducible show CallN _ _ _ _ _ _ _ _); refine call_of env_ok rfl 1000 ?_) | ((with_reducible show XopN _ _ _ _ _ _); refine xop_of env_ok rfl 1000 ?_) | ((with_reducible show CallX _ _ _ _ _ _); first | (refine callX (.lit false) (by kernel_rfl) rfl (trivial) (fun β w hm => HH2 w) ?_) | (refine callX (.lit true) (by kernel_rfl) rfl (trivial) (fun β w hm => HH1 w) ?_) | (refine callX (.lit true) (by kernel_rfl) rfl (trivial) (fun β w hm => HA w) ?_) | (refine callX (.int .i64 (v : Nat)) (by kernel_rfl) rfl (trivial) (fun β w hm => HM w) ?_)) | ((with_reducible show OpX _ _ _ _); first | fail) | ((with_reducible show ∃ _ : SV, _); first | fail) | ((with_reducible show ∃ _, _); first | (refine ⟨0, rfl, by simp, ?_⟩) | (refine ⟨1, rfl, by simp, ?_⟩) | fail))
          all_goals first | (exfalso; omega) | (exfalso; exact (by assumption : ¬¬ ((c :: 45 :: u : List UInt8) = [])) (by simp)) | skip
          all_goals exact hI _ ⟨(), hB⟩ (by (try dsimp only); rw [hV2]; ((with_reducible show wk _ _); repeat' (first | exact trivial | exact eqSV_refl _ | (refine eqI ?_) | (refine eqS ?_) | (with_reducible exact rfl) | apply And.intro | exact Nat.zero_lt_one | exact Nat.le_of_ble_eq_true rfl | (with_reducible assumption) | ((show (_ : Int) = _); (try dsimp only); omega) | ((show eqSV _ _); simp [eqSV, isB, bval, *]; done) | rfl)))
        · have hnb : ExP.expB (c :: 45 :: u) = false := by rw [hB]; exact Bool.eq_false_iff.2 hok
          obtain ⟨rfl, rfl⟩ := hXB hnb
          have hno : (!u.isEmpty && u.all ExP.digC) = true → 3 < u.length := fun h => by
            rw [Bool.and_eq_true] at h
            rw [h.1, h.2] at hK
            rw [hK] at hok
            simpa using hok
          generalize (!u.isEmpty && u.all ExP.digC) = b at *
          have hdl : (List.drop 1 (c :: 45 :: u)).length = (45 :: u).length := rfl
          have hdl2 : (List.drop 1 (List.drop 1 (c :: 45 :: u))).length = (45 :: u).length - 1 := by simp
          have hdl3 : (45 :: u).length = u.length + 1 := rfl
          have hdn : ((List.drop 1 (c :: 45 :: u)).getD 0 0).toNat = 45 := rfl
          cases b with
          | false =>
            repeat' (first | ((with_reducible first | show wpS _ _ _ _ | show putD _ _ _ _ | show putW _ _ _ _ | show splitG _ _ _ | show wpQ _ _ _ _ _ _ | show wpD _ _ _ _ _ _ _ | show wpX _ _ _ _ _ _ _ | show expX _ _ _ _ _ _ | show stepX _ _ _ _ | show keepR _ _ _ | show wpY _ _ _ _); conv => whnf) | ((with_reducible show RetN _ _ _); refine retB fun β => ?_) | ((with_reducible show _ ∧ _); first | (apply And.intro; (· intro h; exfalso; first | omega | (revert h; decide)); intro _) | (apply And.intro; rotate_left; (· intro h; exfalso; first | omega | (revert h; decide)); intro _) | (refine ⟨fun _ => ?_, fun _ => ?_⟩) | (apply And.intro; · kernel_rfl) | (apply And.intro; · (show inK _ _; unfold inK; omega)) | (apply And.intro; · (show (_ : Int) ≤ 9223372036854775807; (try simp only [List.length_append, List.length_drop, List.length_take, List.length_cons, List.length_nil]); omega))) | ((with_reducible show AllBe _); refine allBe fun βe => ?_; conv => whnf) | ((with_reducible show bothX _ _); refine bothI ?_ ?_; conv => whnf) | (with_reducible exact trivial) | ((with_reducible show CallN _ _ _ _ _ _ _ _); refine call_of env_ok rfl 1000 ?_) | ((with_reducible show XopN _ _ _ _ _ _); refine xop_of env_ok rfl 1000 ?_) | ((with_reducible show CallX _ _ _ _ _ _); first | (refine callX (.lit false) (by kernel_rfl) rfl (trivial) (fun β w hm => HH2 w) ?_) | (refine callX (.lit true) (by kernel_rfl) rfl (trivial) (fun β w hm => HH1 w) ?_) | (refine callX (.lit false) (by kernel_rfl) rfl (trivial) (fun β w hm => HA w) ?_)) | ((with_reducible show OpX _ _ _ _); first | fail) | ((with_reducible show ∃ _ : SV, _); first | fail) | ((with_reducible show ∃ _, _); first | (refine ⟨0, rfl, by simp, ?_⟩) | (refine ⟨1, rfl, by simp, ?_⟩) | fail))
            all_goals first | (exfalso; omega) | (exfalso; exact (by assumption : ¬¬ ((c :: 45 :: u : List UInt8) = [])) (by simp)) | skip
            all_goals refine ret fun β w' hm => ?_
            all_goals exact FrOutE0 rfl hm.below
          | true =>
            have h3 := hno rfl
            repeat' (first | ((with_reducible first | show wpS _ _ _ _ | show putD _ _ _ _ | show putW _ _ _ _ | show splitG _ _ _ | show wpQ _ _ _ _ _ _ | show wpD _ _ _ _ _ _ _ | show wpX _ _ _ _ _ _ _ | show expX _ _ _ _ _ _ | show stepX _ _ _ _ | show keepR _ _ _ | show wpY _ _ _ _); conv => whnf) | ((with_reducible show RetN _ _ _); refine retB fun β => ?_) | ((with_reducible show _ ∧ _); first | (apply And.intro; (· intro h; exfalso; first | omega | (revert h; decide)); intro _) | (apply And.intro; rotate_left; (· intro h; exfalso; first | omega | (revert h; decide)); intro _) | (refine ⟨fun _ => ?_, fun _ => ?_⟩) | (apply And.intro; · kernel_rfl) | (apply And.intro; · (show inK _ _; unfold inK; omega)) | (apply And.intro; · (show (_ : Int) ≤ 9223372036854775807; (try simp only [List.length_append, List.length_drop, List.length_take, List.length_cons, List.length_nil]); omega))) | ((with_reducible show AllBe _); refine allBe fun βe => ?_; conv => whnf) | ((with_reducible show bothX _ _); refine bothI ?_ ?_; conv => whnf) | (with_reducible exact trivial) | ((with_reducible show CallN _ _ _ _ _ _ _ _); refine call_of env_ok rfl 1000 ?_) | ((with_reducible show XopN _ _ _ _ _ _); refine xop_of env_ok rfl 1000 ?_) | ((with_reducible show CallX _ _ _ _ _ _); first | (refine callX (.lit false) (by kernel_rfl) rfl (trivial) (fun β w hm => HH2 w) ?_) | (refine callX (.lit true) (by kernel_rfl) rfl (trivial) (fun β w hm => HH1 w) ?_) | (refine callX (.lit true) (by kernel_rfl) rfl (trivial) (fun β w hm => HA w) ?_)) | ((with_reducible show OpX _ _ _ _); first | fail) | ((with_reducible show ∃ _ : SV, _); first | fail) | ((with_reducible show ∃ _, _); first | (refine ⟨0, rfl, by simp, ?_⟩) | (refine ⟨1, rfl, by simp, ?_⟩) | fail))
            all_goals first | (exfalso; omega) | (exfalso; exact (by assumption : ¬¬ ((c :: 45 :: u : List UInt8) = [])) (by simp)) | skip
            all_goals refine ret fun β w' hm => ?_
            all_goals exact FrOutE0 rfl hm.below
      by_cases h43 : t.head? = some 43
      · obtain ⟨u, rfl⟩ : ∃ u, t = 43 :: u := ⟨_, head_cons h43⟩
        have e1 : ExP.sgnP (43 :: u) = false := rfl
        have e2 : ExP.sgnR (43 :: u) = u := rfl
        rw [e2] at hB
        have HH1 := fun w => has_any (43 :: u) 45 w (by omega)
        have HH2 := fun w => has_any (43 :: u) 43 w (by omega)
        rw [show (((43 : UInt8) :: u).head? == some 45) = false from rfl] at HH1
        rw [show (((43 : UInt8) :: u).head? == some 43) = true from rfl] at HH2
        have hul : u.length ≤ 1000 := by simp only [List.length_cons] at hTl; omega
        have HA := fun w => allDigits_any u w (by omega)
        have hK : ExP.expOK u = (!u.isEmpty && (u.all ExP.digC && decide (u.length ≤ 3))) := rfl
        by_cases hok : ExP.expOK u = true
        · obtain ⟨o1, o2, o3, o4, o5⟩ := ExP.expOK_run hok
          have hv := ExP.val3 hok
          have HM := fun w => small_any u w o4 o5
          have hi : (!u.isEmpty && u.all ExP.digC) = true := by rw [o5]; simpa using o1
          rw [hi] at HA
          rw [hok] at hB
          have hV2 : ExP.expV (c :: 43 :: u) = (ExP.valS u : Int) := by rw [hV]; simp only [e1, e2, Bool.false_eq_true, if_false]; try rfl
          clear hV hK
          generalize ExP.valS u = v at *
          have hdl : (List.drop 1 (c :: 43 :: u)).length = (43 :: u).length := rfl
          have hdl2 : (List.drop 1 (List.drop 1 (c :: 43 :: u))).length = (43 :: u).length - 1 := by simp
          have hdl3 : (43 :: u).length = u.length + 1 := rfl
          have hdn : ((List.drop 1 (c :: 43 :: u)).getD 0 0).toNat = 43 := rfl
          repeat' (first | ((with_reducible first | show wpS _ _ _ _ | show putD _ _ _ _ | show putW _ _ _ _ | show splitG _ _ _ | show wpQ _ _ _ _ _ _ | show wpD _ _ _ _ _ _ _ | show wpX _ _ _ _ _ _ _ | show expX _ _ _ _ _ _ | show stepX _ _ _ _ | show keepR _ _ _ | show wpY _ _ _ _); conv => whnf) | ((with_reducible show RetN _ _ _); refine retB fun β => ?_) | ((with_reducible show _ ∧ _); first | (apply And.intro; (· intro h; exfalso; first | omega | (revert h; decide)); intro _) | (apply And.intro; rotate_left; (· intro h; exfalso; first | omega | (revert h; decide)); intro _) | (refine ⟨fun _ => ?_, fun _ => ?_⟩) | (apply And.intro; · kernel_rfl) | (apply And.intro; · (show inK _ _; unfold inK; omega)) | (apply And.intro; · (show (_ : Int) ≤ 9223372036854775807; (try simp only [List.length_append, List.length_drop, List.length_take, List.length_cons, List.length_nil]); omega))) | ((with_reducible show AllBe _); refine allBe fun βe => ?_; conv => whnf) | ((with_reducible show bothX _ _); refine bothI ?_ ?_; conv => whnf) | (with_reducible exact trivial) | ((with_reducible show CallN _ _ _ _ _ _ _ _); refine call_of env_ok rfl 1000 ?_) | ((with_reducible show XopN _ _ _ _ _ _); refine xop_of env_ok rfl 1000 ?_) | ((with_reducible show CallX _ _ _ _ _ _); first | (refine callX (.lit true) (by kernel_rfl) rfl (trivial) (fun β w hm => HH2 w) ?_) | (refine callX (.lit false) (by kernel_rfl) rfl (trivial) (fun β w hm => HH1 w) ?_) | (refine callX (.lit true) (by kernel_rfl) rfl (trivial) (fun β w hm => HA w) ?_) | (refine callX (.int .i64 (v : Nat)) (by kernel_rfl) rfl (trivial) (fun β w hm => HM w) ?_)) | ((with_reducible show OpX _ _ _ _); first | fail) | ((with_reducible show ∃ _ : SV, _); first | fail) | ((with_reducible show ∃ _, _); first | (refine ⟨0, rfl, by simp, ?_⟩) | (refine ⟨1, rfl, by simp, ?_⟩) | fail))
          all_goals first | (exfalso; omega) | (exfalso; exact (by assumption : ¬¬ ((c :: 43 :: u : List UInt8) = [])) (by simp)) | skip
          all_goals exact hI _ ⟨(), hB⟩ (by (try dsimp only); rw [hV2]; ((with_reducible show wk _ _); repeat' (first | exact trivial | exact eqSV_refl _ | (refine eqI ?_) | (refine eqS ?_) | (with_reducible exact rfl) | apply And.intro | exact Nat.zero_lt_one | exact Nat.le_of_ble_eq_true rfl | (with_reducible assumption) | ((show (_ : Int) = _); (try dsimp only); omega) | ((show eqSV _ _); simp [eqSV, isB, bval, *]; done) | rfl)))
        · have hnb : ExP.expB (c :: 43 :: u) = false := by rw [hB]; exact Bool.eq_false_iff.2 hok
          obtain ⟨rfl, rfl⟩ := hXB hnb
          have hno : (!u.isEmpty && u.all ExP.digC) = true → 3 < u.length := fun h => by
            rw [Bool.and_eq_true] at h
            rw [h.1, h.2] at hK
            rw [hK] at hok
            simpa using hok
          generalize (!u.isEmpty && u.all ExP.digC) = b at *
          have hdl : (List.drop 1 (c :: 43 :: u)).length = (43 :: u).length := rfl
          have hdl2 : (List.drop 1 (List.drop 1 (c :: 43 :: u))).length = (43 :: u).length - 1 := by simp
          have hdl3 : (43 :: u).length = u.length + 1 := rfl
          have hdn : ((List.drop 1 (c :: 43 :: u)).getD 0 0).toNat = 43 := rfl
          cases b with
          | false =>
            repeat' (first | ((with_reducible first | show wpS _ _ _ _ | show putD _ _ _ _ | show putW _ _ _ _ | show splitG _ _ _ | show wpQ _ _ _ _ _ _ | show wpD _ _ _ _ _ _ _ | show wpX _ _ _ _ _ _ _ | show expX _ _ _ _ _ _ | show stepX _ _ _ _ | show keepR _ _ _ | show wpY _ _ _ _); conv => whnf) | ((with_reducible show RetN _ _ _); refine retB fun β => ?_) | ((with_reducible show _ ∧ _); first | (apply And.intro; (· intro h; exfalso; first | omega | (revert h; decide)); intro _) | (apply And.intro; rotate_left; (· intro h; exfalso; first | omega | (revert h; decide)); intro _) | (refine ⟨fun _ => ?_, fun _ => ?_⟩) | (apply And.intro; · kernel_rfl) | (apply And.intro; · (show inK _ _; unfold inK; omega)) | (apply And.intro; · (show (_ : Int) ≤ 9223372036854775807; (try simp only [List.length_append, List.length_drop, List.length_take, List.length_cons, List.length_nil]); omega))) | ((with_reducible show AllBe _); refine allBe fun βe => ?_; conv => whnf) | ((with_reducible show bothX _ _); refine bothI ?_ ?_; conv => whnf) | (with_reducible exact trivial) | ((with_reducible show CallN _ _ _ _ _ _ _ _); refine call_of env_ok rfl 1000 ?_) | ((with_reducible show XopN _ _ _ _ _ _); refine xop_of env_ok rfl 1000 ?_) | ((with_reducible show CallX _ _ _ _ _ _); first | (refine callX (.lit true) (by kernel_rfl) rfl (trivial) (fun β w hm => HH2 w) ?_) | (refine callX (.lit false) (by kernel_rfl) rfl (trivial) (fun β w hm => HH1 w) ?_) | (refine callX (.lit false) (by kernel_rfl) rfl (trivial) (fun β w hm => HA w) ?_)) | ((with_reducible show OpX _ _ _ _); first | fail) | ((with_reducible show ∃ _ : SV, _); first | fail) | ((with_reducible show ∃ _, _); first | (refine ⟨0, rfl, by simp, ?_⟩) | (refine ⟨1, rfl, by simp, ?_⟩) | fail))
            all_goals first | (exfalso; omega) | (exfalso; exact (by assumption : ¬¬ ((c :: 43 :: u : List UInt8) = [])) (by simp)) | skip
            all_goals refine ret fun β w' hm => ?_
            all_goals exact FrOutE0 rfl hm.below
          | true =>
            have h3 := hno rfl
            repeat' (first | ((with_reducible first | show wpS _ _ _ _ | show putD _ _ _ _ | show putW _ _ _ _ | show splitG _ _ _ | show wpQ _ _ _ _ _ _ | show wpD _ _ _ _ _ _ _ | show wpX _ _ _ _ _ _ _ | show expX _ _ _ _ _ _ | show stepX _ _ _ _ | show keepR _ _ _ | show wpY _ _ _ _); conv => whnf) | ((with_reducible show RetN _ _ _); refine retB fun β => ?_) | ((with_reducible show _ ∧ _); first | (apply And.intro; (· intro h; exfalso; first | omega | (revert h; decide)); intro _) | (apply And.intro; rotate_left; (· intro h; exfalso; first | omega | (revert h; decide)); intro _) | (refine ⟨fun _ => ?_, fun _ => ?_⟩) | (apply And.intro; · kernel_rfl) | (apply And.intro; · (show inK _ _; unfold inK; omega)) | (apply And.intro; · (show (_ : Int) ≤ 9223372036854775807; (try simp only [List.length_append, List.length_drop, List.length_take, List.length_cons, List.length_nil]); omega))) | ((with_reducible show AllBe _); refine allBe fun βe => ?_; conv => whnf) | ((with_reducible show bothX _ _); refine bothI ?_ ?_; conv => whnf) | (with_reducible exact trivial) | ((with_reducible show CallN _ _ _ _ _ _ _ _); refine call_of env_ok rfl 1000 ?_) | ((with_reducible show XopN _ _ _ _ _ _); refine xop_of env_ok rfl 1000 ?_) | ((with_reducible show CallX _ _ _ _ _ _); first | (refine callX (.lit true) (by kernel_rfl) rfl (trivial) (fun β w hm => HH2 w) ?_) | (refine callX (.lit false) (by kernel_rfl) rfl (trivial) (fun β w hm => HH1 w) ?_) | (refine callX (.lit true) (by kernel_rfl) rfl (trivial) (fun β w hm => HA w) ?_)) | ((with_reducible show OpX _ _ _ _); first | fail) | ((with_reducible show ∃ _ : SV, _); first | fail) | ((with_reducible show ∃ _, _); first | (refine ⟨0, rfl, by simp, ?_⟩) | (refine ⟨1, rfl, by simp, ?_⟩) | fail))
            all_goals first | (exfalso; omega) | (exfalso; exact (by assumption : ¬¬ ((c :: 43 :: u : List UInt8) = [])) (by simp)) | skip
            all_goals refine ret fun β w' hm => ?_
            all_goals exact FrOutE0 rfl hm.below
      · have e1 : ExP.sgnP t = false := by rw [hsP]; exact beq_eq_false_iff_ne.2 h45
        have e2 : ExP.sgnR t = t := by rw [hsR, if_neg (by simp [h45, h43])]
        rw [e2] at hB
        have HH1 := fun w => has_any (t) 45 w (by omega)
        have HH2 := fun w => has_any (t) 43 w (by omega)
        rw [beq_eq_false_iff_ne.2 h45] at HH1
        rw [beq_eq_false_iff_ne.2 h43] at HH2
        have hul : t.length ≤ 1000 := by simp only [List.length_cons] at hTl; omega
        have HA := fun w => allDigits_any t w (by omega)
        have hK : ExP.expOK t = (!t.isEmpty && (t.all ExP.digC && decide (t.length ≤ 3))) := rfl
        by_cases hok : ExP.expOK t = true
        · obtain ⟨o1, o2, o3, o4, o5⟩ := ExP.expOK_run hok
          have hv := ExP.val3 hok
          have HM := fun w => small_any t w o4 o5
          have hi : (!t.isEmpty && t.all ExP.digC) = true := by rw [o5]; simpa using o1
          rw [hi] at HA
          rw [hok] at hB
          have hV2 : ExP.expV (c :: t) = (ExP.valS t : Int) := by rw [hV]; simp only [e1, e2, Bool.false_eq_true, if_false]; try rfl
          clear hV hK
          generalize ExP.valS t = v at *
          have hdl : (List.drop 1 (c :: t)).length = (t).length := rfl
          have hdl2 : (List.drop 1 (List.drop 1 (c :: t))).length = (t).length - 1 := by simp
          have hdl3 : (t).length = t.length + 0 := rfl
          repeat' (first | ((with_reducible first | show wpS _ _ _ _ | show putD _ _ _ _ | show putW _ _ _ _ | show splitG _ _ _ | show wpQ _ _ _ _ _ _ | show wpD _ _ _ _ _ _ _ | show wpX _ _ _ _ _ _ _ | show expX _ _ _ _ _ _ | show stepX _ _ _ _ | show keepR _ _ _ | show wpY _ _ _ _); conv => whnf) | ((with_reducible show RetN _ _ _); refine retB fun β => ?_) | ((with_reducible show _ ∧ _); first | (apply And.intro; (· intro h; exfalso; first | omega | (revert h; decide)); intro _) | (apply And.intro; rotate_left; (· intro h; exfalso; first | omega | (revert h; decide)); intro _) | (refine ⟨fun _ => ?_, fun _ => ?_⟩) | (apply And.intro; · kernel_rfl) | (apply And.intro; · (show inK _ _; unfold inK; omega)) | (apply And.intro; · (show (_ : Int) ≤ 9223372036854775807; (try simp only [List.length_append, List.length_drop, List.length_take, List.length_cons, List.length_nil]); omega))) | ((with_reducible show AllBe _); refine allBe fun βe => ?_; conv => whnf) | ((with_reducible show bothX _ _); refine bothI ?_ ?_; conv => whnf) | (with_reducible exact trivial) | ((with_reducible show CallN _ _ _ _ _ _ _ _); refine call_of env_ok rfl 1000 ?_) | ((with_reducible show XopN _ _ _ _ _ _); refine xop_of env_ok rfl 1000 ?_) | ((with_reducible show CallX _ _ _ _ _ _); first | (refine callX (.lit false) (by kernel_rfl) rfl (trivial) (fun β w hm => HH2 w) ?_) | (refine callX (.lit false) (by kernel_rfl) rfl (trivial) (fun β w hm => HH1 w) ?_) | (refine callX (.lit true) (by kernel_rfl) rfl (trivial) (fun β w hm => HA w) ?_) | (refine callX (.int .i64 (v : Nat)) (by kernel_rfl) rfl (trivial) (fun β w hm => HM w) ?_)) | ((with_reducible show OpX _ _ _ _); first | fail) | ((with_reducible show ∃ _ : SV, _); first | fail) | ((with_reducible show ∃ _, _); first | (refine ⟨0, rfl, by simp, ?_⟩) | (refine ⟨1, rfl, by simp, ?_⟩) | fail))
          all_goals first | (exfalso; omega) | (exfalso; exact (by assumption : ¬¬ ((c :: t : List UInt8) = [])) (by simp)) | skip
          all_goals exact hI _ ⟨(), hB⟩ (by (try dsimp only); rw [hV2]; ((with_reducible show wk _ _); repeat' (first | exact trivial | exact eqSV_refl _ | (refine eqI ?_) | (refine eqS ?_) | (with_reducible exact rfl) | apply And.intro | exact Nat.zero_lt_one | exact Nat.le_of_ble_eq_true rfl | (with_reducible assumption) | ((show (_ : Int) = _); (try dsimp only); omega) | ((show eqSV _ _); simp [eqSV, isB, bval, *]; done) | rfl)))
        · have hnb : ExP.expB (c :: t) = false := by rw [hB]; exact Bool.eq_false_iff.2 hok
          obtain ⟨rfl, rfl⟩ := hXB hnb
          have hno : (!t.isEmpty && t.all ExP.digC) = true → 3 < t.length := fun h => by
            rw [Bool.and_eq_true] at h
            rw [h.1, h.2] at hK
            rw [hK] at hok
            simpa using hok
          generalize (!t.isEmpty && t.all ExP.digC) = b at *
          have hdl : (List.drop 1 (c :: t)).length = (t).length := rfl
          have hdl2 : (List.drop 1 (List.drop 1 (c :: t))).length = (t).length - 1 := by simp
          have hdl3 : (t).length = t.length + 0 := rfl
          cases b with
          | false =>
            repeat' (first | ((with_reducible first | show wpS _ _ _ _ | show putD _ _ _ _ | show putW _ _ _ _ | show splitG _ _ _ | show wpQ _ _ _ _ _ _ | show wpD _ _ _ _ _ _ _ | show wpX _ _ _ _ _ _ _ | show expX _ _ _ _ _ _ | show stepX _ _ _ _ | show keepR _ _ _ | show wpY _ _ _ _); conv => whnf) | ((with_reducible show RetN _ _ _); refine retB fun β => ?_) | ((with_reducible show _ ∧ _); first | (apply And.intro; (· intro h; exfalso; first | omega | (revert h; decide)); intro _) | (apply And.intro; rotate_left; (· intro h; exfalso; first | omega | (revert h; decide)); intro _) | (refine ⟨fun _ => ?_, fun _ => ?_⟩) | (apply And.intro; · kernel_rfl) | (apply And.intro; · (show inK _ _; unfold inK; omega)) | (apply And.intro; · (show (_ : Int) ≤ 9223372036854775807; (try simp only [List.length_append, List.length_drop, List.length_take, List.length_cons, List.length_nil]); omega))) | ((with_reducible show AllBe _); refine allBe fun βe => ?_; conv => whnf) | ((with_reducible show bothX _ _); refine bothI ?_ ?_; conv => whnf) | (with_reducible exact trivial) | ((with_reducible show CallN _ _ _ _ _ _ _ _); refine call_of env_ok rfl 1000 ?_) | ((with_reducible show XopN _ _ _ _ _ _); refine xop_of env_ok rfl 1000 ?_) | ((with_reducible show CallX _ _ _ _ _ _); first | (refine callX (.lit false) (by kernel_rfl) rfl (trivial) (fun β w hm => HH2 w) ?_) | (refine callX (.lit false) (by kernel_rfl) rfl (trivial) (fun β w hm => HH1 w) ?_) | (refine callX (.lit false) (by kernel_rfl) rfl (trivial) (fun β w hm => HA w) ?_)) | ((with_reducible show OpX _ _ _ _); first | fail) | ((with_reducible show ∃ _ : SV, _); first | fail) | ((with_reducible show ∃ _, _); first | (refine ⟨0, rfl, by simp, ?_⟩) | (refine ⟨1, rfl, by simp, ?_⟩) | fail))
            all_goals first | (exfalso; omega) | (exfalso; exact (by assumption : ¬¬ ((c :: t : List UInt8) = [])) (by simp)) | skip
            all_goals refine ret fun β w' hm => ?_
            all_goals exact FrOutE0 rfl hm.below
          | true =>
            have h3 := hno rfl
            repeat' (first | ((with_reducible first | show wpS _ _ _ _ | show putD _ _ _ _ | show putW _ _ _ _ | show splitG _ _ _ | show wpQ _ _ _ _ _ _ | show wpD _ _ _ _ _ _ _ | show wpX _ _ _ _ _ _ _ | show expX _ _ _ _ _ _ | show stepX _ _ _ _ | show keepR _ _ _ | show wpY _ _ _ _); conv => whnf) | ((with_reducible show RetN _ _ _); refine retB fun β => ?_) | ((with_reducible show _ ∧ _); first | (apply And.intro; (· intro h; exfalso; first | omega | (revert h; decide)); intro _) | (apply And.intro; rotate_left; (· intro h; exfalso; first | omega | (revert h; decide)); intro _) | (refine ⟨fun _ => ?_, fun _ => ?_⟩) | (apply And.intro; · kernel_rfl) | (apply And.intro; · (show inK _ _; unfold inK; omega)) | (apply And.intro; · (show (_ : Int) ≤ 9223372036854775807; (try simp only [List.length_append, List.length_drop, List.length_take, List.length_cons, List.length_nil]); omega))) | ((with_reducible show AllBe _); refine allBe fun βe => ?_; conv => whnf) | ((with_reducible show bothX _ _); refine bothI ?_ ?_; conv => whnf) | (with_reducible exact trivial) | ((with_reducible show CallN _ _ _ _ _ _ _ _); refine call_of env_ok rfl 1000 ?_) | ((with_reducible show XopN _ _ _ _ _ _); refine xop_of env_ok rfl 1000 ?_) | ((with_reducible show CallX _ _ _ _ _ _); first | (refine callX (.lit false) (by kernel_rfl) rfl (trivial) (fun β w hm => HH2 w) ?_) | (refine callX (.lit false) (by kernel_rfl) rfl (trivial) (fun β w hm => HH1 w) ?_) | (refine callX (.lit true) (by kernel_rfl) rfl (trivial) (fun β w hm => HA w) ?_)) | ((with_reducible show OpX _ _ _ _); first | fail) | ((with_reducible show ∃ _ : SV, _); first | fail) | ((with_reducible show ∃ _, _); first | (refine ⟨0, rfl, by simp, ?_⟩) | (refine ⟨1, rfl, by simp, ?_⟩) | fail))
            all_goals first | (exfalso; omega) | (exfalso; exact (by assumption : ¬¬ ((c :: t : List UInt8) = [])) (by simp)) | skip
            all_goals refine ret fun β w' hm => ?_
            all_goals exact FrOutE0 rfl hm.below
  obtain ⟨_, hB⟩ := t
  have hvl := ExP.expV_le _ hB
  by_cases hW0 : W = []
  · obtain ⟨rfl, rfl⟩ := hXW hW0
    subst hW0
    repeat' (first | ((with_reducible first | show wpS _ _ _ _ | show putD _ _ _ _ | show putW _ _ _ _ | show splitG _ _ _ | show wpQ _ _ _ _ _ _ | show wpD _ _ _ _ _ _ _ | show wpX _ _ _ _ _ _ _ | show expX _ _ _ _ _ _ | show stepX _ _ _ _ | show keepR _ _ _ | show wpY _ _ _ _); conv => whnf) | ((with_reducible show RetN _ _ _); refine retB fun β => ?_) | ((with_reducible show _ ∧ _); first | (apply And.intro; (· intro h; exfalso; first | omega | (revert h; decide)); intro _) | (apply And.intro; rotate_left; (· intro h; exfalso; first | omega | (revert h; decide)); intro _) | (refine ⟨fun _ => ?_, fun _ => ?_⟩) | (apply And.intro; · kernel_rfl) | (apply And.intro; · (show inK _ _; unfold inK; omega)) | (apply And.intro; · (show (_ : Int) ≤ 9223372036854775807; (try simp only [List.length_append, List.length_drop, List.length_take, List.length_cons, List.length_nil]); omega))) | ((with_reducible show AllBe _); refine allBe fun βe => ?_; conv => whnf) | ((with_reducible show bothX _ _); refine bothI ?_ ?_; conv => whnf) | (with_reducible exact trivial) | ((with_reducible show CallN _ _ _ _ _ _ _ _); refine call_of env_ok rfl 1000 ?_) | ((with_reducible show XopN _ _ _ _ _ _); refine xop_of env_ok rfl 1000 ?_) | ((with_reducible show CallX _ _ _ _ _ _); first | fail) | ((with_reducible show OpX _ _ _ _); first | fail) | ((with_reducible show ∃ _ : SV, _); first | fail) | ((with_reducible show ∃ _, _); first | fail))
    all_goals first | (exfalso; exact absurd rfl (by assumption)) | skip
    all_goals refine ret fun β w' hm => ?_
    all_goals exact FrOutE0 rfl hm.below
  obtain ⟨hN, hE⟩ := hG hW0 hB
  clear hG hXW hXB
  have ha : (W ++ P).all ExP.digC = true := by rw [List.all_append, hWa, hPa]; rfl
  have HP := fun w => natOf_any (W ++ P) w (by rw [List.length_append]; omega) ha
  have hn := ExP.nd_val (b := 10) (by omega) ha
  rw [List.length_append] at hn
  obtain ⟨i0, hi, hz0, hz1, hz2⟩ := info_parts intInfo
  have hu := Tryz.underlying34
  have hsz := fun w => Tryz.sizeOf3 w
  have hzv := fun w => Tryz.zeroValue3 w
  have hn1 : ExP.nd 10 1 = 1 := ExP.nd_one (by omega)
  have hv1 : nv .i64 10 1 = [.int .i64 1] := nv_one (by omega)
  have W1 := fun (x : FrV) (w' : World) (h : Below w.heap.size w w') => rfrac_any x w' (Nat.lt_of_lt_of_le hw0 h.size)
  generalize ExP.expV T = v at *
  generalize ExP.valS (W ++ P) = V at *
  obtain ⟨k, hk⟩ : ∃ k, k = (v - (P.length : Int)).natAbs := ⟨_, rfl⟩
  have hk2 : k ≤ 2000 := by omega
  have hnt := ExP.nd_ten10 k
  have hnm := ExP.nd_mul (b := 10) (x := V) (y := 10 ^ k) (by omega)
  have hkp : 0 < 10 ^ k := Nat.pow_pos (by omega)
  by_cases hneg : v - (P.length : Int) < 0
  · have hN2 : N0 = ⟨m, V, 10 ^ k⟩ := by
      rw [hN, ExP.scaleN, if_pos hneg, ← hk]
      simp
    have hkk : v - (P.length : Int) = -(k : Int) := by omega
    clear hN
    subst hN2 hE
    have SC := fun a c g (w' : World) (h0 : 0 < w'.heap.size) h => rscaled_neg m V 1 a c (some ⟨g, 0, none⟩) 1 k w' h0 (by omega) (by omega) (by omega) h
    simp only [hn1, hv1, Nat.one_mul] at SC
    repeat' (first | ((with_reducible first | show wpS _ _ _ _ | show putD _ _ _ _ | show putW _ _ _ _ | show splitG _ _ _ | show wpQ _ _ _ _ _ _ | show wpD _ _ _ _ _ _ _ | show wpX _ _ _ _ _ _ _ | show expX _ _ _ _ _ _ | show stepX _ _ _ _ | show keepR _ _ _ | show wpY _ _ _ _); conv => whnf) | ((with_reducible show RetN _ _ _); refine retB fun β => ?_) | ((with_reducible show _ ∧ _); first | (apply And.intro; (· intro h; exfalso; first | omega | (revert h; decide)); intro _) | (apply And.intro; rotate_left; (· intro h; exfalso; first | omega | (revert h; decide)); intro _) | (refine ⟨fun _ => ?_, fun _ => ?_⟩) | (apply And.intro; · kernel_rfl) | (apply And.intro; · (show inK _ _; unfold inK; omega)) | (apply And.intro; · (show (_ : Int) ≤ 9223372036854775807; (try simp only [List.length_append, List.length_drop, List.length_take, List.length_cons, List.length_nil]); omega))) | ((with_reducible show AllBe _); refine allBe fun βe => ?_; conv => whnf) | ((with_reducible show bothX _ _); refine bothI ?_ ?_; conv => whnf) | (with_reducible exact trivial) | ((with_reducible show CallN _ _ _ _ _ _ _ _); refine call_of env_ok rfl 1000 ?_) | ((with_reducible show XopN _ _ _ _ _ _); refine xop_of env_ok rfl 1000 ?_) | ((with_reducible show CallX _ _ _ _ _ _); first | (refine callNat .i64 10 V hw0 (by kernel_rfl) rfl (fun β w' hm => HP w') (fun a1 c1 q1 q2 q3 => ?_)) | (refine callNum .i64 10 (10 ^ k) (fun a' c' => .agg [.bool m, .any (.slice a1 (ExP.nd 10 V) c1), .any (.slice a' (ExP.nd 10 (10 ^ k)) c')]) hw0 (by kernel_rfl) rfl (fun a' c' => ⟨trivial, rfl, rfl, trivial⟩) (fun β w' hm => by simp only [SV.dens, SV.den]; rw [hkk]; exact SC a1 c1 g1 w' (Nat.lt_of_lt_of_le hw0 hm.base_le) (by first | exact (hm.own 1 rfl).1 | exact (hm.own 2 rfl).1 | exact (hm.own 3 rfl).1)) (fun a2 c2 q4 q5 => ?_)) | (refine callX (.tup [.agg [.str (ExP.writeF ⟨m, V, 10 ^ k⟩).1, .str (ExP.writeF ⟨m, V, 10 ^ k⟩).2], .int .i64 (ExP.writeE ⟨m, V, 10 ^ k⟩)]) (by kernel_rfl) rfl (⟨⟨trivial, trivial, trivial⟩, trivial, trivial⟩) (fun β w hm => W1 ⟨m, V, 10 ^ k, a1, c1, a2, c2⟩ w hm.below (FrIn.of (by first | exact hm.slF 1 rfl | exact hm.slF 2 rfl | exact hm.slF 3 rfl | exact hm.slF 4 rfl) (by first | exact hm.slF 1 rfl | exact hm.slF 2 rfl | exact hm.slF 3 rfl | exact hm.slF 4 rfl) ⟨q1, q4, q2, q5⟩) hkp (by dsimp only; omega) (by dsimp only; omega)) ?_)) | ((with_reducible show OpX _ _ _ _); first | (refine opx_build1 (sz := 1) rfl rfl rfl (xs := [.int .i64 1]) (fun β => rfl) rfl (by omega) (by omega) hu hsz hzv (fun g1 => ?_))) | ((with_reducible show ∃ _ : SV, _); first | fail) | ((with_reducible show ∃ _, _); first | fail))
    all_goals first | (exfalso; omega) | (exfalso; simp_all; done) | skip
    all_goals refine ret fun β w' hm => ?_
    all_goals exact ⟨⟨m, V, 10 ^ k, a1, c1, a2, c2⟩, rfl, rfl, ⟨q1, q4, q2, q5⟩, Ls2 (by first | exact hm.slF 1 rfl | exact hm.slF 2 rfl | exact hm.slF 3 rfl | exact hm.slF 4 rfl) (by first | exact hm.freshF 1 rfl rfl | exact hm.freshF 2 rfl rfl | exact hm.freshF 3 rfl rfl | exact hm.freshF 4 rfl rfl) (by first | exact hm.slF 1 rfl | exact hm.slF 2 rfl | exact hm.slF 3 rfl | exact hm.slF 4 rfl) (by first | exact hm.freshF 1 rfl rfl | exact hm.freshF 2 rfl rfl | exact hm.freshF 3 rfl rfl | exact hm.freshF 4 rfl rfl), hm.below⟩
  · have hN2 : N0 = ⟨m, V * 10 ^ k, 1⟩ := by
      rw [hN, ExP.scaleN, if_neg hneg, ← hk]
    have hkk : v - (P.length : Int) = (k : Int) := by omega
    clear hN
    subst hN2 hE
    have SC := fun a c g (w' : World) (h0 : 0 < w'.heap.size) h => rscaled_pos m V 1 a c (some ⟨g, 0, none⟩) 1 k w' h0 (by omega) (by omega) h
    simp only [hn1] at SC
    repeat' (first | ((with_reducible first | show wpS _ _ _ _ | show putD _ _ _ _ | show putW _ _ _ _ | show splitG _ _ _ | show wpQ _ _ _ _ _ _ | show wpD _ _ _ _ _ _ _ | show wpX _ _ _ _ _ _ _ | show expX _ _ _ _ _ _ | show stepX _ _ _ _ | show keepR _ _ _ | show wpY _ _ _ _); conv => whnf) | ((with_reducible show RetN _ _ _); refine retB fun β => ?_) | ((with_reducible show _ ∧ _); first | (apply And.intro; (· intro h; exfalso; first | omega | (revert h; decide)); intro _) | (apply And.intro; rotate_left; (· intro h; exfalso; first | omega | (revert h; decide)); intro _) | (refine ⟨fun _ => ?_, fun _ => ?_⟩) | (apply And.intro; · kernel_rfl) | (apply And.intro; · (show inK _ _; unfold inK; omega)) | (apply And.intro; · (show (_ : Int) ≤ 9223372036854775807; (try simp only [List.length_append, List.length_drop, List.length_take, List.length_cons, List.length_nil]); omega))) | ((with_reducible show AllBe _); refine allBe fun βe => ?_; conv => whnf) | ((with_reducible show bothX _ _); refine bothI ?_ ?_; conv => whnf) | (with_reducible exact trivial) | ((with_reducible show CallN _ _ _ _ _ _ _ _); refine call_of env_ok rfl 1000 ?_) | ((with_reducible show XopN _ _ _ _ _ _); refine xop_of env_ok rfl 1000 ?_) | ((with_reducible show CallX _ _ _ _ _ _); first | (refine callNat .i64 10 V hw0 (by kernel_rfl) rfl (fun β w' hm => HP w') (fun a1 c1 q1 q2 q3 => ?_)) | (refine callNum .i64 10 (V * 10 ^ k) (fun a' c' => .agg [.bool m, .any (.slice a' (ExP.nd 10 (V * 10 ^ k)) c'), .any (.slice (some ⟨g1, 0, none⟩) 1 1)]) hw0 (by kernel_rfl) rfl (fun a' c' => ⟨trivial, rfl, rfl, trivial⟩) (fun β w' hm => by simp only [SV.dens, SV.den]; rw [hkk]; exact SC a1 c1 g1 w' (Nat.lt_of_lt_of_le hw0 hm.base_le) (by first | exact hm.slF 1 rfl | exact hm.slF 2 rfl | exact hm.slF 3 rfl | exact hm.slF 4 rfl)) (fun a2 c2 q4 q5 => ?_)) | (refine callX (.tup [.agg [.str (ExP.writeF ⟨m, V * 10 ^ k, 1⟩).1, .str (ExP.writeF ⟨m, V * 10 ^ k, 1⟩).2], .int .i64 (ExP.writeE ⟨m, V * 10 ^ k, 1⟩)]) (by kernel_rfl) rfl (⟨⟨trivial, trivial, trivial⟩, trivial, trivial⟩) (fun β w hm => by have W2 := W1 ⟨m, V * 10 ^ k, 1, a2, c2, some ⟨g1, 0, none⟩, 1⟩ w hm.below (FrIn.of (by first | exact hm.slF 1 rfl | exact hm.slF 2 rfl | exact hm.slF 3 rfl | exact hm.slF 4 rfl) (by rw [hv1]; exact (by first | exact (hm.own 1 rfl).1 | exact (hm.own 2 rfl).1 | exact (hm.own 3 rfl).1)) ⟨q4, (fun h => by cases h), q5, by dsimp only; omega⟩) (by dsimp only; omega) (by dsimp only; omega) (by dsimp only; omega); simp only [FrV.val, hn1] at W2; exact W2) ?_)) | ((with_reducible show OpX _ _ _ _); first | (refine opx_build1 (sz := 1) rfl rfl rfl (xs := [.int .i64 1]) (fun β => rfl) rfl (by omega) (by omega) hu hsz hzv (fun g1 => ?_))) | ((with_reducible show ∃ _ : SV, _); first | fail) | ((with_reducible show ∃ _, _); first | fail))
    all_goals first | (exfalso; omega) | (exfalso; simp_all; done) | skip
    all_goals refine ret fun β w' hm => ?_
    all_goals exact ⟨⟨m, V * 10 ^ k, 1, a2, c2, some ⟨g1, 0, none⟩, 1⟩, by simp only [FrV.val, hn1]; rfl, rfl, ⟨q4, (fun h => by cases h), q5, by dsimp only; omega⟩, Ls2 (by first | exact hm.slF 1 rfl | exact hm.slF 2 rfl | exact hm.slF 3 rfl | exact hm.slF 4 rfl) (by first | exact hm.freshF 1 rfl rfl | exact hm.freshF 2 rfl rfl | exact hm.freshF 3 rfl rfl | exact hm.freshF 4 rfl rfl) (by dsimp only; rw [hv1]; first | exact (hm.own 1 rfl).1 | exact (hm.own 2 rfl).1 | exact (hm.own 3 rfl).1) (by dsimp only; rw [hv1]; first | exact fresh_own (hm.own 1 rfl).2.1 rfl | exact fresh_own (hm.own 2 rfl).2.1 rfl | exact fresh_own (hm.own 3 rfl).2.1 rfl), hm.below⟩
end Go.Proofs.YtfodbfbljeeojaaGreatDoor
