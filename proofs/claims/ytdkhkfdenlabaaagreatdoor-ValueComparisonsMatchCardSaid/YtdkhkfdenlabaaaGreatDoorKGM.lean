/- The reference's numbers: trim, Compare, digitAt, Plus, Less. The reference's product, phase by phase. -/
import Derived.Test.YtdkhkfdenlabaaaGreatDoorKGL
import Derived.Test.YtdkhkfdenlabaaaGreatDoorKGD
set_option linter.unusedSimpArgs false
set_option linter.unusedVariables false
namespace Go.Proofs.YtdkhkfdenlabaaaGreatDoor
open Go.RowKit
open Sym
attribute [local irreducible] Calls Sym.AggEq ExP.nd ExP.dig
theorem intInfo : (Tryz.prog.info? 3).map (fun i => (i.zero, i.size, i.bytes)) = some (some (.int .i64 0), 1, 8) := by kernel_rfl
set_option maxRecDepth 100000 in
theorem rtrim_any (a : Option Addr) (n cap x : Nat) (w : World) (hx : x < 10 ^ n) (hn : n ≤ cap) (hl : n ≤ 100000000) (hs : SlAt a (valsK .i64 (ExP.dgN 10 n x)) w) : Calls Tryz.prog 181 #[.slice a n cap] w fun e w' => e = .returned (.slice a (ExP.nd 10 x) cap) ∧ Below w.heap.size w w' := by
  refine enter env_ok Tryz.func181 rfl Tryz.results181 Tryz.ntmps181 [] [] [.any (.slice a n cap)] ⟨rfl, trivial⟩ (Nat.le_of_ble_eq_true rfl) w _ 1000 ?_
  repeat' (first | ((with_reducible first | show wpS .. | show putD .. | show putW .. | show splitG .. | show wpQ .. | show wpD .. | show wpX .. | show expX .. | show stepX .. | show keepR .. | show wpY ..); conv => whnf) | ((with_reducible show RetN ..); refine retB fun β => ?_) | ((with_reducible show _ ∧ _); first | (refine ⟨fun h => absurd h (by first | omega | decide), fun _ => ?_⟩) | (refine ⟨fun _ => ?_, fun h => absurd h (by first | omega | decide)⟩) | (refine ⟨fun _ => ?_, fun _ => ?_⟩) | (apply And.intro; · kernel_rfl) | (apply And.intro; · (show inK _ _; unfold inK; omega)) | (apply And.intro; · (show (_ : Int) ≤ 9223372036854775807; (try simp only [lenS]); omega))) | ((with_reducible show AllBe ..); refine allBe fun βe => ?_; conv => whnf) | ((with_reducible show bothX ..); refine bothI ?_ ?_; conv => whnf) | (with_reducible exact trivial) | ((with_reducible show CallN ..); refine call_of env_ok rfl 1000 ?_) | ((with_reducible show XopN ..); refine xop_of env_ok rfl 1000 ?_) | ((with_reducible show CallX ..); first | fail) | ((with_reducible show OpX ..); first | fail) | ((with_reducible show ∃ _ : SV, _); first | fail) | ((with_reducible show ∃ _, _); first | fail))
  refine loop env_ok rfl (T := {m : Nat // m ≤ n ∧ x < 10 ^ m}) (fun t => ⟨[(0, .any (.slice a t.1 cap))], [], 0, 21⟩) (fun t => t.1) ⟨n, Nat.le_refl _, hx⟩ 1000 [] [] (fun _ => Nat.zero_le _) (by ((with_reducible show wk _ _); repeat' (first | exact trivial | exact eqSV_refl _ | (refine eqI ?_) | (refine eqS ?_) | (with_reducible exact rfl) | apply And.intro | exact Nat.zero_lt_one | exact Nat.le_of_ble_eq_true rfl | (with_reducible assumption) | ((show (_ : Int) = _); (try dsimp only); omega) | ((show eqSV _ _); simp [eqSV, isB, bval, *]; done) | rfl))) (fun t I hI => ?_)
  obtain ⟨m, hm, hxm⟩ := t
  dsimp only
  by_cases h0 : m = 0
  · subst h0
    rw [ExP.trim_end (b := 10) (by omega) hxm (.inl rfl)]
    repeat' (first | ((with_reducible first | show wpS .. | show putD .. | show putW .. | show splitG .. | show wpQ .. | show wpD .. | show wpX .. | show expX .. | show stepX .. | show keepR .. | show wpY ..); conv => whnf) | ((with_reducible show RetN ..); refine retB fun β => ?_) | ((with_reducible show _ ∧ _); first | (refine ⟨fun h => absurd h (by first | omega | decide), fun _ => ?_⟩) | (refine ⟨fun _ => ?_, fun h => absurd h (by first | omega | decide)⟩) | (refine ⟨fun _ => ?_, fun _ => ?_⟩) | (apply And.intro; · kernel_rfl) | (apply And.intro; · (show inK _ _; unfold inK; omega)) | (apply And.intro; · (show (_ : Int) ≤ 9223372036854775807; (try simp only [lenS]); omega))) | ((with_reducible show AllBe ..); refine allBe fun βe => ?_; conv => whnf) | ((with_reducible show bothX ..); refine bothI ?_ ?_; conv => whnf) | (with_reducible exact trivial) | ((with_reducible show CallN ..); refine call_of env_ok rfl 1000 ?_) | ((with_reducible show XopN ..); refine xop_of env_ok rfl 1000 ?_) | ((with_reducible show CallX ..); first | fail) | ((with_reducible show OpX ..); first | fail) | ((with_reducible show ∃ _ : SV, _); first | (refine ⟨_, ?ok, x_len Tryz.underlying70, ?_⟩; (case ok => exact fun _ _ => trivial))) | ((with_reducible show ∃ _, _); first | fail))
    all_goals rfl
  · obtain ⟨ad, rfl⟩ : ∃ ad, a = some ad := SlAt.some hs (fun e => by have := congrArg List.length e; rw [valsK_len, ExP.dgN_len] at this; simp at this; omega)
    have hc := sl_read hs (i := m - 1) (valsK_get (ExP.dgN_get 10 n x (m - 1) (by omega)))
    obtain ⟨m', hm'⟩ : ∃ m', m = m' + 1 := ⟨m - 1, by omega⟩
    have ht := fun h => ExP.trim_step (b := 10) (x := x) (m := m') (by omega) (by rw [← hm']; exact hxm) h
    have he := fun h => ExP.trim_end (b := 10) (x := x) (m := m) (by omega) hxm (.inr h)
    rw [show m - 1 = m' by omega] at hc he
    generalize ExP.dig 10 m' x = dd at *
    repeat' (first | ((with_reducible first | show wpS .. | show putD .. | show putW .. | show splitG .. | show wpQ .. | show wpD .. | show wpX .. | show expX .. | show stepX .. | show keepR .. | show wpY ..); conv => whnf) | ((with_reducible show RetN ..); refine retB fun β => ?_) | ((with_reducible show _ ∧ _); first | (refine ⟨fun h => absurd h (by first | omega | decide), fun _ => ?_⟩) | (refine ⟨fun _ => ?_, fun h => absurd h (by first | omega | decide)⟩) | (refine ⟨fun _ => ?_, fun _ => ?_⟩) | (apply And.intro; · kernel_rfl) | (apply And.intro; · (show inK _ _; unfold inK; omega)) | (apply And.intro; · (show (_ : Int) ≤ 9223372036854775807; (try simp only [lenS]); omega))) | ((with_reducible show AllBe ..); refine allBe fun βe => ?_; conv => whnf) | ((with_reducible show bothX ..); refine bothI ?_ ?_; conv => whnf) | (with_reducible exact trivial) | ((with_reducible show CallN ..); refine call_of env_ok rfl 1000 ?_) | ((with_reducible show XopN ..); refine xop_of env_ok rfl 1000 ?_) | ((with_reducible show CallX ..); first | fail) | ((with_reducible show OpX ..); first | fail) | ((with_reducible show ∃ _ : SV, _); first | (refine ⟨_, ?ok, x_len Tryz.underlying70, ?_⟩; (case ok => exact fun _ _ => trivial)) | (refine ⟨_, ?ok, x_index (j := m') (by omega) Tryz.underlying70 (fun w => Tryz.sizeOf3 w) (by omega), ?_⟩; (case ok => exact fun _ _ => rfl)) | (refine ⟨.int .i64 (dd : Nat), fun _ _ => trivial, x_load1 (fun w => Tryz.isAgg3 w) (fun w' hb β => by rw [Nat.mul_one]; exact hc w' hb), ?_⟩) | (refine ⟨_, ?ok, x_sub (j := m') (by omega) Tryz.underlying70 (fun w => Tryz.sizeOf3 w) (by omega), ?_⟩; (case ok => exact fun _ _ => rfl))) | ((with_reducible show ∃ _, _); first | fail))
    all_goals first | (refine hI _ ⟨m', by omega, ht (by omega)⟩ (by dsimp only; omega) (by ((with_reducible show wk _ _); repeat' (first | exact trivial | exact eqSV_refl _ | (refine eqI ?_) | (refine eqS ?_) | (with_reducible exact rfl) | apply And.intro | exact Nat.zero_lt_one | exact Nat.le_of_ble_eq_true rfl | (with_reducible assumption) | ((show (_ : Int) = _); (try dsimp only); omega) | ((show eqSV _ _); simp [eqSV, isB, bval, *]; done) | rfl))); done) | (rw [he (by omega)]; rfl)
def ExP.cmpS (x y : Nat) : Int := if x < y then -1 else if y < x then 1 else 0
theorem ExP.cmpS_top {b x y j : Nat} (hb : 2 ≤ b) (h : x / b ^ (j + 1) = y / b ^ (j + 1)) (hd : ExP.dig b j x ≠ ExP.dig b j y) : ExP.cmpS x y = if ExP.dig b j x < ExP.dig b j y then -1 else 1 := by
  unfold ExP.cmpS
  rcases Nat.lt_or_ge (ExP.dig b j x) (ExP.dig b j y) with h1 | h1
  · rw [if_pos (ExP.cmp_less (by omega) h h1), if_pos h1]
  · have := ExP.cmp_less (b := b) (by omega) h.symm (by omega : ExP.dig b j y < ExP.dig b j x)
    rw [if_neg (by omega), if_pos this, if_neg (by omega)]
set_option maxRecDepth 100000 in
theorem rcompare_any (a b : Option Addr) (ca cb x y : Nat) (w : World) (hx : ExP.nd 10 x ≤ 100000000) (hy : ExP.nd 10 y ≤ 100000000) (hs : SlAt a (nv .i64 10 x) w) (ht : SlAt b (nv .i64 10 y) w) :
    Calls Tryz.prog 183 #[.slice a (ExP.nd 10 x) ca, .slice b (ExP.nd 10 y) cb] w fun e w' => e = .returned (.int .i64 (ExP.cmpS x y)) ∧ Below w.heap.size w w' := by
  refine enter env_ok Tryz.func183 rfl Tryz.results183 Tryz.ntmps183 [] [] [.any (.slice a (ExP.nd 10 x) ca), .any (.slice b (ExP.nd 10 y) cb)] ⟨rfl, rfl, trivial⟩ (Nat.le_of_ble_eq_true rfl) w _ 1000 ?_
  by_cases hn : ExP.nd 10 x = ExP.nd 10 y
  · have hxp := ExP.nd_lt (b := 10) (by omega) x
    have hyp := ExP.nd_lt (b := 10) (by omega) y
    have h0 : x / 10 ^ ExP.nd 10 x = y / 10 ^ ExP.nd 10 x := by rw [Nat.div_eq_of_lt hxp, hn, Nat.div_eq_of_lt hyp]
    have htop := fun j => ExP.cmpS_top (b := 10) (x := x) (y := y) (j := j) (by omega)
    have hnext := fun j => ExP.cmp_next (b := 10) (x := x) (y := y) (i := j) (by omega)
    have hcs : x / 10 ^ 0 = y / 10 ^ 0 → ExP.cmpS x y = 0 := fun h => by simp only [Nat.pow_zero, Nat.div_one] at h; subst h; unfold ExP.cmpS; simp
    clear hxp hyp
    have hgx := fun i (h : i < ExP.nd 10 x) => nv_get (k := .i64) h
    have hgy := fun i (h : i < ExP.nd 10 y) => nv_get (k := .i64) h
    have hnx := nv_ne (k := .i64) (b := 10) (x := x)
    have hny := nv_ne (k := .i64) (b := 10) (x := y)
    rw [← hn] at hgy hny ⊢
    have hdx := fun i => ExP.dig_lt (b := 10) (by omega) i x
    have hdy := fun i => ExP.dig_lt (b := 10) (by omega) i y
    generalize ExP.nd 10 x = n at *
    generalize ExP.cmpS x y = cv at *
    repeat' (first | ((with_reducible first | show wpS .. | show putD .. | show putW .. | show splitG .. | show wpQ .. | show wpD .. | show wpX .. | show expX .. | show stepX .. | show keepR .. | show wpY ..); conv => whnf) | ((with_reducible show RetN ..); refine retB fun β => ?_) | ((with_reducible show _ ∧ _); first | (refine ⟨fun h => absurd h (by first | omega | decide), fun _ => ?_⟩) | (refine ⟨fun _ => ?_, fun h => absurd h (by first | omega | decide)⟩) | (refine ⟨fun _ => ?_, fun _ => ?_⟩) | (apply And.intro; · kernel_rfl) | (apply And.intro; · (show inK _ _; unfold inK; omega)) | (apply And.intro; · (show (_ : Int) ≤ 9223372036854775807; (try simp only [lenS]); omega))) | ((with_reducible show AllBe ..); refine allBe fun βe => ?_; conv => whnf) | ((with_reducible show bothX ..); refine bothI ?_ ?_; conv => whnf) | (with_reducible exact trivial) | ((with_reducible show CallN ..); refine call_of env_ok rfl 1000 ?_) | ((with_reducible show XopN ..); refine xop_of env_ok rfl 1000 ?_) | ((with_reducible show CallX ..); first | fail) | ((with_reducible show OpX ..); first | fail) | ((with_reducible show ∃ _ : SV, _); first | (refine ⟨_, ?ok, x_len Tryz.underlying70, ?_⟩; (case ok => exact fun _ _ => trivial))) | ((with_reducible show ∃ _, _); first | fail))
    refine loop env_ok rfl (T := {j : Nat // j ≤ n ∧ x / 10 ^ j = y / 10 ^ j}) (fun t => ⟨[(0, .any (.slice a n ca)), (1, .any (.slice b n cb)), (5, .int .i64 ((t.1 : Nat) - 1 : Int))], [], 0, 41⟩) (fun t => t.1) ⟨n, Nat.le_refl _, h0⟩ 1000 [] [] (fun _ => Nat.zero_le _) (by ((with_reducible show wk _ _); repeat' (first | exact trivial | exact eqSV_refl _ | (refine eqI ?_) | (refine eqS ?_) | (with_reducible exact rfl) | apply And.intro | exact Nat.zero_lt_one | exact Nat.le_of_ble_eq_true rfl | (with_reducible assumption) | ((show (_ : Int) = _); (try dsimp only); omega) | ((show eqSV _ _); simp [eqSV, isB, bval, *]; done) | rfl))) (fun t I hI => ?_)
    obtain ⟨j, hj, hxy⟩ := t
    dsimp only
    by_cases hj0 : j = 0
    · subst hj0
      rw [hcs hxy]
      repeat' (first | ((with_reducible first | show wpS .. | show putD .. | show putW .. | show splitG .. | show wpQ .. | show wpD .. | show wpX .. | show expX .. | show stepX .. | show keepR .. | show wpY ..); conv => whnf) | ((with_reducible show RetN ..); refine retB fun β => ?_) | ((with_reducible show _ ∧ _); first | (refine ⟨fun h => absurd h (by first | omega | decide), fun _ => ?_⟩) | (refine ⟨fun _ => ?_, fun h => absurd h (by first | omega | decide)⟩) | (refine ⟨fun _ => ?_, fun _ => ?_⟩) | (apply And.intro; · kernel_rfl) | (apply And.intro; · (show inK _ _; unfold inK; omega)) | (apply And.intro; · (show (_ : Int) ≤ 9223372036854775807; (try simp only [lenS]); omega))) | ((with_reducible show AllBe ..); refine allBe fun βe => ?_; conv => whnf) | ((with_reducible show bothX ..); refine bothI ?_ ?_; conv => whnf) | (with_reducible exact trivial) | ((with_reducible show CallN ..); refine call_of env_ok rfl 1000 ?_) | ((with_reducible show XopN ..); refine xop_of env_ok rfl 1000 ?_) | ((with_reducible show CallX ..); first | fail) | ((with_reducible show OpX ..); first | fail) | ((with_reducible show ∃ _ : SV, _); first | fail) | ((with_reducible show ∃ _, _); first | fail))
      all_goals rfl
    · obtain ⟨i, rfl⟩ : ∃ i, j = i + 1 := ⟨j - 1, by omega⟩
      obtain ⟨ad, rfl⟩ := SlAt.some hs (hnx (by omega))
      obtain ⟨bd, rfl⟩ := SlAt.some ht (hny (by omega))
      have h1 := sl_read hs (hgx i (by omega))
      have h2 := sl_read ht (hgy i (by omega))
      have htop := htop i hxy
      have hnext := hnext i hxy
      have hdx := hdx i
      have hdy := hdy i
      generalize ExP.dig 10 i x = dx at *
      generalize ExP.dig 10 i y = dy at *
      repeat' (first | ((with_reducible first | show wpS .. | show putD .. | show putW .. | show splitG .. | show wpQ .. | show wpD .. | show wpX .. | show expX .. | show stepX .. | show keepR .. | show wpY ..); conv => whnf) | ((with_reducible show RetN ..); refine retB fun β => ?_) | ((with_reducible show _ ∧ _); first | (refine ⟨fun h => absurd h (by first | omega | decide), fun _ => ?_⟩) | (refine ⟨fun _ => ?_, fun h => absurd h (by first | omega | decide)⟩) | (refine ⟨fun _ => ?_, fun _ => ?_⟩) | (apply And.intro; · kernel_rfl) | (apply And.intro; · (show inK _ _; unfold inK; omega)) | (apply And.intro; · (show (_ : Int) ≤ 9223372036854775807; (try simp only [lenS]); omega))) | ((with_reducible show AllBe ..); refine allBe fun βe => ?_; conv => whnf) | ((with_reducible show bothX ..); refine bothI ?_ ?_; conv => whnf) | (with_reducible exact trivial) | ((with_reducible show CallN ..); refine call_of env_ok rfl 1000 ?_) | ((with_reducible show XopN ..); refine xop_of env_ok rfl 1000 ?_) | ((with_reducible show CallX ..); first | fail) | ((with_reducible show OpX ..); first | fail) | ((with_reducible show ∃ _ : SV, _); first | (refine ⟨_, ?ok, x_len Tryz.underlying70, ?_⟩; (case ok => exact fun _ _ => trivial)) | (refine ⟨_, ?ok, x_index (j := i) (by omega) Tryz.underlying70 (fun w => Tryz.sizeOf3 w) (by omega), ?_⟩; (case ok => exact fun _ _ => rfl)) | (refine ⟨.int .i64 (dx : Nat), fun _ _ => trivial, x_load1 (fun w => Tryz.isAgg3 w) (fun w' hb β => by rw [Nat.mul_one]; exact h1 w' hb), ?_⟩) | (refine ⟨.int .i64 (dy : Nat), fun _ _ => trivial, x_load1 (fun w => Tryz.isAgg3 w) (fun w' hb β => by rw [Nat.mul_one]; exact h2 w' hb), ?_⟩)) | ((with_reducible show ∃ _, _); first | fail))
      · rw [htop (by omega), if_pos (by omega)]; rfl
      · rw [htop (by omega), if_neg (by omega)]; rfl
      · refine hI _ ⟨i, by omega, hnext (by omega)⟩ (by dsimp only; omega) (by ((with_reducible show wk _ _); repeat' (first | exact trivial | exact eqSV_refl _ | (refine eqI ?_) | (refine eqS ?_) | (with_reducible exact rfl) | apply And.intro | exact Nat.zero_lt_one | exact Nat.le_of_ble_eq_true rfl | (with_reducible assumption) | ((show (_ : Int) = _); (try dsimp only); omega) | ((show eqSV _ _); simp [eqSV, isB, bval, *]; done) | rfl)))
  · have hcv : ExP.cmpS x y = if ExP.nd 10 x < ExP.nd 10 y then -1 else 1 := by
      unfold ExP.cmpS
      rcases Nat.lt_or_ge (ExP.nd 10 x) (ExP.nd 10 y) with h | h
      · rw [if_pos (ExP.nd_less (by omega) h), if_pos h]
      · have := ExP.nd_less (b := 10) (x := y) (y := x) (by omega) (by omega)
        rw [if_neg (by omega), if_pos this, if_neg (by omega)]
    rw [hcv]
    generalize ExP.nd 10 x = n at *
    generalize ExP.nd 10 y = m at *
    repeat' (first | ((with_reducible first | show wpS .. | show putD .. | show putW .. | show splitG .. | show wpQ .. | show wpD .. | show wpX .. | show expX .. | show stepX .. | show keepR .. | show wpY ..); conv => whnf) | ((with_reducible show RetN ..); refine retB fun β => ?_) | ((with_reducible show _ ∧ _); first | (refine ⟨fun h => absurd h (by first | omega | decide), fun _ => ?_⟩) | (refine ⟨fun _ => ?_, fun h => absurd h (by first | omega | decide)⟩) | (refine ⟨fun _ => ?_, fun _ => ?_⟩) | (apply And.intro; · kernel_rfl) | (apply And.intro; · (show inK _ _; unfold inK; omega)) | (apply And.intro; · (show (_ : Int) ≤ 9223372036854775807; (try simp only [lenS]); omega))) | ((with_reducible show AllBe ..); refine allBe fun βe => ?_; conv => whnf) | ((with_reducible show bothX ..); refine bothI ?_ ?_; conv => whnf) | (with_reducible exact trivial) | ((with_reducible show CallN ..); refine call_of env_ok rfl 1000 ?_) | ((with_reducible show XopN ..); refine xop_of env_ok rfl 1000 ?_) | ((with_reducible show CallX ..); first | fail) | ((with_reducible show OpX ..); first | fail) | ((with_reducible show ∃ _ : SV, _); first | (refine ⟨_, ?ok, x_len Tryz.underlying70, ?_⟩; (case ok => exact fun _ _ => trivial))) | ((with_reducible show ∃ _, _); first | fail))
    · rw [if_pos (by omega)]; rfl
    · rw [if_neg (by omega)]; rfl
set_option maxRecDepth 100000 in
theorem digitAt_any (a : Option Addr) (ca x i : Nat) (w : World) (hx : ExP.nd 10 x ≤ 100000000) (hi : i ≤ 1000000000) (hs : SlAt a (nv .i64 10 x) w) :
    Calls Tryz.prog 214 #[.slice a (ExP.nd 10 x) ca, .int .i64 (i : Nat)] w fun e w' => e = .returned (.int .i64 (ExP.dig 10 i x : Nat)) ∧ Below w.heap.size w w' := by
  refine enter env_ok Tryz.func214 rfl Tryz.results214 Tryz.ntmps214 [] [] [.any (.slice a (ExP.nd 10 x) ca), .int .i64 (i : Nat)] ⟨rfl, trivial, trivial⟩ (Nat.le_of_ble_eq_true rfl) w _ 1000 ?_
  by_cases h : i < ExP.nd 10 x
  · obtain ⟨ad, rfl⟩ := SlAt.some hs (nv_ne (by omega))
    have h1 := sl_read hs (nv_get (k := .i64) h)
    generalize ExP.nd 10 x = n at *
    generalize ExP.dig 10 i x = dx at *
    repeat' (first | ((with_reducible first | show wpS .. | show putD .. | show putW .. | show splitG .. | show wpQ .. | show wpD .. | show wpX .. | show expX .. | show stepX .. | show keepR .. | show wpY ..); conv => whnf) | ((with_reducible show RetN ..); refine retB fun β => ?_) | ((with_reducible show _ ∧ _); first | (refine ⟨fun h => absurd h (by first | omega | decide), fun _ => ?_⟩) | (refine ⟨fun _ => ?_, fun h => absurd h (by first | omega | decide)⟩) | (refine ⟨fun _ => ?_, fun _ => ?_⟩) | (apply And.intro; · kernel_rfl) | (apply And.intro; · (show inK _ _; unfold inK; omega)) | (apply And.intro; · (show (_ : Int) ≤ 9223372036854775807; (try simp only [lenS]); omega))) | ((with_reducible show AllBe ..); refine allBe fun βe => ?_; conv => whnf) | ((with_reducible show bothX ..); refine bothI ?_ ?_; conv => whnf) | (with_reducible exact trivial) | ((with_reducible show CallN ..); refine call_of env_ok rfl 1000 ?_) | ((with_reducible show XopN ..); refine xop_of env_ok rfl 1000 ?_) | ((with_reducible show CallX ..); first | fail) | ((with_reducible show OpX ..); first | fail) | ((with_reducible show ∃ _ : SV, _); first | (refine ⟨_, ?ok, x_len Tryz.underlying70, ?_⟩; (case ok => exact fun _ _ => trivial)) | (refine ⟨_, ?ok, x_index (j := i) (by omega) Tryz.underlying70 (fun w => Tryz.sizeOf3 w) (by omega), ?_⟩; (case ok => exact fun _ _ => rfl)) | (refine ⟨.int .i64 (dx : Nat), fun _ _ => trivial, x_load1 (fun w => Tryz.isAgg3 w) (fun w' hb β => by rw [Nat.mul_one]; exact h1 w' hb), ?_⟩)) | ((with_reducible show ∃ _, _); first | fail))
    all_goals rfl
  · rw [ExP.dig_big (b := 10) (by omega) (by omega : ExP.nd 10 x ≤ i)]
    generalize ExP.nd 10 x = n at *
    repeat' (first | ((with_reducible first | show wpS .. | show putD .. | show putW .. | show splitG .. | show wpQ .. | show wpD .. | show wpX .. | show expX .. | show stepX .. | show keepR .. | show wpY ..); conv => whnf) | ((with_reducible show RetN ..); refine retB fun β => ?_) | ((with_reducible show _ ∧ _); first | (refine ⟨fun h => absurd h (by first | omega | decide), fun _ => ?_⟩) | (refine ⟨fun _ => ?_, fun h => absurd h (by first | omega | decide)⟩) | (refine ⟨fun _ => ?_, fun _ => ?_⟩) | (apply And.intro; · kernel_rfl) | (apply And.intro; · (show inK _ _; unfold inK; omega)) | (apply And.intro; · (show (_ : Int) ≤ 9223372036854775807; (try simp only [lenS]); omega))) | ((with_reducible show AllBe ..); refine allBe fun βe => ?_; conv => whnf) | ((with_reducible show bothX ..); refine bothI ?_ ?_; conv => whnf) | (with_reducible exact trivial) | ((with_reducible show CallN ..); refine call_of env_ok rfl 1000 ?_) | ((with_reducible show XopN ..); refine xop_of env_ok rfl 1000 ?_) | ((with_reducible show CallX ..); first | fail) | ((with_reducible show OpX ..); first | fail) | ((with_reducible show ∃ _ : SV, _); first | (refine ⟨_, ?ok, x_len Tryz.underlying70, ?_⟩; (case ok => exact fun _ _ => trivial))) | ((with_reducible show ∃ _, _); first | fail))
    all_goals rfl
abbrev apJ (fr : List (Nat × SV)) (d n i : Nat) (g cap : Nat) (xs : List Value) : St := match i with
  | 0 => ⟨(d, .any (.slice none 0 0)) :: fr, [], 0, n⟩
  | i + 1 => ⟨(d, .any (.slice (some ⟨g, 0, none⟩) (i + 1) cap)) :: fr, [(1, true, .blob (OwnS 3 1 g (i + 1) cap xs))], 2, n⟩
set_option maxRecDepth 100000 in
set_option maxHeartbeats 2000000 in
theorem rplus_any (a b : Option Addr) (ca cb x y : Nat) (w : World) (hx : ExP.nd 10 x ≤ 100000000) (hy : ExP.nd 10 y ≤ 100000000) (hs : SlAt a (nv .i64 10 x) w) (ht : SlAt b (nv .i64 10 y) w) :
    Calls Tryz.prog 182 #[.slice a (ExP.nd 10 x) ca, .slice b (ExP.nd 10 y) cb] w (NatOut .i64 10 (x + y) w) := by
  obtain ⟨i0, hi, hz0, hz1, hz2⟩ := info_parts intInfo
  have hu := Tryz.underlying70
  have hsz := fun w => Tryz.sizeOf3 w
  have hzv := fun w => Tryz.zeroValue3 w
  have hnext := fun {i c S} => ExP.plus_next (b := 10) (x := x) (y := y) (i := i) (c := c) (S := S) (by omega)
  have hend := fun {i S} => ExP.plus_end (b := 10) (x := x) (y := y) (i := i) (S := S) (by omega)
  have hcar := fun {i c S} => ExP.plus_carry (b := 10) (x := x) (y := y) (i := i) (c := c) (S := S) (by omega)
  have hov := fun {i c S} => ExP.plus_over (b := 10) (x := x) (y := y) (i := i) (c := c) (S := S) (by omega)
  have hdx := fun i => ExP.dig_lt (b := 10) (by omega) i x
  have hdy := fun i => ExP.dig_lt (b := 10) (by omega) i y
  have HX := fun i (h : i ≤ 1000000000) w' hb => digitAt_any a ca x i w' hx h (SlAt.below hs hb)
  have HY := fun i (h : i ≤ 1000000000) w' hb => digitAt_any b cb y i w' hy h (SlAt.below ht hb)
  refine enter env_ok Tryz.func182 rfl Tryz.results182 Tryz.ntmps182 [] [] [.any (.slice a (ExP.nd 10 x) ca), .any (.slice b (ExP.nd 10 y) cb)] ⟨rfl, rfl, trivial⟩ (Nat.le_of_ble_eq_true rfl) w _ 1000 ?_
  generalize ExP.nd 10 x = n at *
  generalize ExP.nd 10 y = m at *
  repeat' (first | ((with_reducible first | show wpS .. | show putD .. | show putW .. | show splitG .. | show wpQ .. | show wpD .. | show wpX .. | show expX .. | show stepX .. | show keepR .. | show wpY ..); conv => whnf) | ((with_reducible show RetN ..); refine retB fun β => ?_) | ((with_reducible show _ ∧ _); first | (refine ⟨fun h => absurd h (by first | omega | decide), fun _ => ?_⟩) | (refine ⟨fun _ => ?_, fun h => absurd h (by first | omega | decide)⟩) | (refine ⟨fun _ => ?_, fun _ => ?_⟩) | (apply And.intro; · kernel_rfl) | (apply And.intro; · (show inK _ _; unfold inK; omega)) | (apply And.intro; · (show (_ : Int) ≤ 9223372036854775807; (try simp only [lenS]); omega))) | ((with_reducible show AllBe ..); refine allBe fun βe => ?_; conv => whnf) | ((with_reducible show bothX ..); refine bothI ?_ ?_; conv => whnf) | (with_reducible exact trivial) | ((with_reducible show CallN ..); refine call_of env_ok rfl 1000 ?_) | ((with_reducible show XopN ..); refine xop_of env_ok rfl 1000 ?_) | ((with_reducible show CallX ..); first | fail) | ((with_reducible show OpX ..); first | fail) | ((with_reducible show ∃ _ : SV, _); first | fail) | ((with_reducible show ∃ _, _); first | fail))
  refine loop env_ok rfl (T := {t : PlT // ExP.PlusI 10 x y t.i t.c t.S ∧ t.i ≤ max n m + 1}) (fun t => apJ [(0, .any (.slice a n ca)), (1, .any (.slice b m cb)), (6, .int .i64 (t.1.c : Nat)), (7, .int .i64 (t.1.i : Nat))] 5 42 t.1.i t.1.g t.1.cap (valsK .i64 (ExP.dgN 10 t.1.i t.1.S))) (fun t => max n m + 2 - t.1.i) ⟨⟨0, 0, 0, 0, 0⟩, ⟨by simp [Nat.mod_one], by simp, .inl rfl⟩, Nat.zero_le _⟩ 1000 [] [] (fun t => by exact Nat.zero_le _) (by dsimp only [apJ]; ((with_reducible show wk _ _); repeat' (first | exact trivial | exact eqSV_refl _ | (refine eqI ?_) | (refine eqS ?_) | (with_reducible exact rfl) | apply And.intro | exact Nat.zero_lt_one | exact Nat.le_of_ble_eq_true rfl | (with_reducible assumption) | ((show (_ : Int) = _); (try dsimp only); omega) | ((show eqSV _ _); simp [eqSV, isB, bval, *]; done) | rfl))) (fun t I hI => ?_)
  obtain ⟨⟨i, c, S, g, cap⟩, hP, hib⟩ := t
  dsimp only at hP hib ⊢
  have hc := hcar hP
  have hS := hP.lt
  have hN := hnext hP
  have hE := fun (h : c = 0) => by subst h; exact hend hP
  have hdx := hdx i
  have hdy := hdy i
  have hrow := fun (v : Int) (d : Nat) (hd : d < 10) (hv : v = (d : Int)) => ExP.row_snoc (k := .i64) (b := 10) (i := i) (S := S) (by omega) hS hd hv
  have HX := HX i (by omega)
  have HY := HY i (by omega)
  have htop : i ≤ max n m ∨ c = 0 := by
    rcases Nat.lt_or_ge (max n m) i with h | h
    · exact .inr (hov hP (by omega) (by omega))
    · exact .inl h
  clear hnext hend hcar hov
  generalize ExP.dig 10 i x = dx at *
  generalize ExP.dig 10 i y = dy at *
  by_cases hgo : i < n ∨ i < m ∨ 0 < c
  · cases i with
    | zero =>
      dsimp only [apJ]
      repeat' (first | ((with_reducible first | show wpS .. | show putD .. | show putW .. | show splitG .. | show wpQ .. | show wpD .. | show wpX .. | show expX .. | show stepX .. | show keepR .. | show wpY ..); conv => whnf) | ((with_reducible show RetN ..); refine retB fun β => ?_) | ((with_reducible show _ ∧ _); first | (refine ⟨fun h => absurd h (by first | omega | decide), fun _ => ?_⟩) | (refine ⟨fun _ => ?_, fun h => absurd h (by first | omega | decide)⟩) | (refine ⟨fun _ => ?_, fun _ => ?_⟩) | (apply And.intro; · kernel_rfl) | (apply And.intro; · (show inK _ _; unfold inK; omega)) | (apply And.intro; · (show (_ : Int) ≤ 9223372036854775807; (try simp only [lenS]); omega))) | ((with_reducible show AllBe ..); refine allBe fun βe => ?_; conv => whnf) | ((with_reducible show bothX ..); refine bothI ?_ ?_; conv => whnf) | (with_reducible exact trivial) | ((with_reducible show CallN ..); refine call_of env_ok rfl 1000 ?_) | ((with_reducible show XopN ..); refine xop_of env_ok rfl 1000 ?_) | ((with_reducible show CallX ..); first | (refine callX (.int .i64 (dx : Nat)) (by kernel_rfl) rfl (trivial) (fun β w hm => HX w hm.below) ?_) | (refine callX (.int .i64 (dy : Nat)) (by kernel_rfl) rfl (trivial) (fun β w hm => HY w hm.below) ?_)) | ((with_reducible show OpX ..); first | (refine opx_build1 (sz := 1) rfl rfl rfl (xs := [.int .i64 (((c + dx + dy) % 10 : Nat) : Int)]) (fun β => by simp only [SV.dens, SV.den]; congr 2; omega) rfl (by omega) (by omega) hu hsz hzv (fun g1 => ?_)) | (refine opx_append0 (sz := 1) 0 rfl hu hi hz0 hz1 rfl (by omega) rfl rfl rfl (by unfold maxLen; omega) (by rw [hz2]; omega) (by simp [Value.oneCell']) (by omega) (fun g2 cap2 => ?_))) | ((with_reducible show ∃ _ : SV, _); first | (refine ⟨_, ?ok, x_len Tryz.underlying70, ?_⟩; (case ok => exact fun _ _ => trivial)) | (refine ⟨_, ?ok, x_rem (by omega) (by omega), ?_⟩; (case ok => exact fun _ _ => trivial)) | (refine ⟨_, ?ok, x_quo (by omega) (by omega) (by simp only [inK]; omega), ?_⟩; (case ok => exact fun _ _ => trivial))) | ((with_reducible show ∃ _, _); first | fail))
      all_goals first | (refine hI _ ⟨⟨0 + 1, (c + dx + dy) / 10, S + (c + dx + dy) % 10 * 10 ^ 0, g2, cap2⟩, hN hgo, by dsimp only; omega⟩ (by dsimp only; omega) (by dsimp only [apJ]; rw [← hrow _ ((c + dx + dy) % 10) (by omega) rfl]; ((with_reducible show wk _ _); repeat' (first | exact trivial | exact eqSV_refl _ | (refine eqI ?_) | (refine eqS ?_) | (with_reducible exact rfl) | apply And.intro | exact Nat.zero_lt_one | exact Nat.le_of_ble_eq_true rfl | (with_reducible assumption) | ((show (_ : Int) = _); (try dsimp only); omega) | ((show eqSV _ _); simp [eqSV, isB, bval, *]; done) | rfl)); all_goals (exact fun b x h => h)); done) | (exfalso; omega)
    | succ i =>
      dsimp only [apJ]
      repeat' (first | ((with_reducible first | show wpS .. | show putD .. | show putW .. | show splitG .. | show wpQ .. | show wpD .. | show wpX .. | show expX .. | show stepX .. | show keepR .. | show wpY ..); conv => whnf) | ((with_reducible show RetN ..); refine retB fun β => ?_) | ((with_reducible show _ ∧ _); first | (refine ⟨fun h => absurd h (by first | omega | decide), fun _ => ?_⟩) | (refine ⟨fun _ => ?_, fun h => absurd h (by first | omega | decide)⟩) | (refine ⟨fun _ => ?_, fun _ => ?_⟩) | (apply And.intro; · kernel_rfl) | (apply And.intro; · (show inK _ _; unfold inK; omega)) | (apply And.intro; · (show (_ : Int) ≤ 9223372036854775807; (try simp only [lenS]); omega))) | ((with_reducible show AllBe ..); refine allBe fun βe => ?_; conv => whnf) | ((with_reducible show bothX ..); refine bothI ?_ ?_; conv => whnf) | (with_reducible exact trivial) | ((with_reducible show CallN ..); refine call_of env_ok rfl 1000 ?_) | ((with_reducible show XopN ..); refine xop_of env_ok rfl 1000 ?_) | ((with_reducible show CallX ..); first | (refine callX (.int .i64 (dx : Nat)) (by kernel_rfl) rfl (trivial) (fun β w hm => HX w hm.below) ?_) | (refine callX (.int .i64 (dy : Nat)) (by kernel_rfl) rfl (trivial) (fun β w hm => HY w hm.below) ?_)) | ((with_reducible show OpX ..); first | (refine opx_build1 (sz := 1) rfl rfl rfl (xs := [.int .i64 (((c + dx + dy) % 10 : Nat) : Int)]) (fun β => by simp only [SV.dens, SV.den]; congr 2; omega) rfl (by omega) (by omega) hu hsz hzv (fun g1 => ?_)) | (refine opx_append (sz := 1) 1 2 rfl hu hi hz0 hz1 rfl (by omega) rfl rfl rfl rfl (by unfold maxLen; omega) (by rw [hz2]; omega) (by simp [Value.oneCell']) (by kernel_rfl) (Nat.zero_le _) (fun g2 cap2 => ?_))) | ((with_reducible show ∃ _ : SV, _); first | (refine ⟨_, ?ok, x_len Tryz.underlying70, ?_⟩; (case ok => exact fun _ _ => trivial)) | (refine ⟨_, ?ok, x_rem (by omega) (by omega), ?_⟩; (case ok => exact fun _ _ => trivial)) | (refine ⟨_, ?ok, x_quo (by omega) (by omega) (by simp only [inK]; omega), ?_⟩; (case ok => exact fun _ _ => trivial))) | ((with_reducible show ∃ _, _); first | fail))
      all_goals first | (refine hI _ ⟨⟨i + 1 + 1, (c + dx + dy) / 10, S + (c + dx + dy) % 10 * 10 ^ (i + 1), g2, cap2⟩, hN hgo, by dsimp only; omega⟩ (by dsimp only; omega) (by dsimp only [apJ]; rw [← hrow _ ((c + dx + dy) % 10) (by omega) rfl]; ((with_reducible show wk _ _); repeat' (first | exact trivial | exact eqSV_refl _ | (refine eqI ?_) | (refine eqS ?_) | (with_reducible exact rfl) | apply And.intro | exact Nat.zero_lt_one | exact Nat.le_of_ble_eq_true rfl | (with_reducible assumption) | ((show (_ : Int) = _); (try dsimp only); omega) | ((show eqSV _ _); simp [eqSV, isB, bval, *]; done) | rfl)); all_goals (exact fun b x h => h)); done) | (exfalso; omega)
  · obtain ⟨rfl, hie⟩ := hE (by omega) (by omega) (by omega)
    cases i with
    | zero =>
      dsimp only [apJ]
      have e : nv .i64 10 (x + y) = [] := List.length_eq_zero_iff.1 (by rw [nv_len, ← hie])
      repeat' (first | ((with_reducible first | show wpS .. | show putD .. | show putW .. | show splitG .. | show wpQ .. | show wpD .. | show wpX .. | show expX .. | show stepX .. | show keepR .. | show wpY ..); conv => whnf) | ((with_reducible show RetN ..); refine retB fun β => ?_) | ((with_reducible show _ ∧ _); first | (refine ⟨fun h => absurd h (by first | omega | decide), fun _ => ?_⟩) | (refine ⟨fun _ => ?_, fun h => absurd h (by first | omega | decide)⟩) | (refine ⟨fun _ => ?_, fun _ => ?_⟩) | (apply And.intro; · kernel_rfl) | (apply And.intro; · (show inK _ _; unfold inK; omega)) | (apply And.intro; · (show (_ : Int) ≤ 9223372036854775807; (try simp only [lenS]); omega))) | ((with_reducible show AllBe ..); refine allBe fun βe => ?_; conv => whnf) | ((with_reducible show bothX ..); refine bothI ?_ ?_; conv => whnf) | (with_reducible exact trivial) | ((with_reducible show CallN ..); refine call_of env_ok rfl 1000 ?_) | ((with_reducible show XopN ..); refine xop_of env_ok rfl 1000 ?_) | ((with_reducible show CallX ..); first | fail) | ((with_reducible show OpX ..); first | fail) | ((with_reducible show ∃ _ : SV, _); first | (refine ⟨_, ?ok, x_len Tryz.underlying70, ?_⟩; (case ok => exact fun _ _ => trivial))) | ((with_reducible show ∃ _, _); first | fail))
      refine ret fun β w' hm => ?_
      exact ⟨none, 0, by rw [← hie]; rfl, by rw [e]; exact sl_nil _ _, fun h => absurd e h, fun _ => rfl, by rw [← hie]; exact Nat.le_refl _, hm.below⟩
    | succ i =>
      dsimp only [apJ]
      have e : nv .i64 10 (x + y) = valsK .i64 (ExP.dgN 10 (i + 1) (x + y)) := by show valsK .i64 (ExP.dgN 10 (ExP.nd 10 (x + y)) (x + y)) = _; rw [← hie]
      repeat' (first | ((with_reducible first | show wpS .. | show putD .. | show putW .. | show splitG .. | show wpQ .. | show wpD .. | show wpX .. | show expX .. | show stepX .. | show keepR .. | show wpY ..); conv => whnf) | ((with_reducible show RetN ..); refine retB fun β => ?_) | ((with_reducible show _ ∧ _); first | (refine ⟨fun h => absurd h (by first | omega | decide), fun _ => ?_⟩) | (refine ⟨fun _ => ?_, fun h => absurd h (by first | omega | decide)⟩) | (refine ⟨fun _ => ?_, fun _ => ?_⟩) | (apply And.intro; · kernel_rfl) | (apply And.intro; · (show inK _ _; unfold inK; omega)) | (apply And.intro; · (show (_ : Int) ≤ 9223372036854775807; (try simp only [lenS]); omega))) | ((with_reducible show AllBe ..); refine allBe fun βe => ?_; conv => whnf) | ((with_reducible show bothX ..); refine bothI ?_ ?_; conv => whnf) | (with_reducible exact trivial) | ((with_reducible show CallN ..); refine call_of env_ok rfl 1000 ?_) | ((with_reducible show XopN ..); refine xop_of env_ok rfl 1000 ?_) | ((with_reducible show CallX ..); first | fail) | ((with_reducible show OpX ..); first | fail) | ((with_reducible show ∃ _ : SV, _); first | (refine ⟨_, ?ok, x_len Tryz.underlying70, ?_⟩; (case ok => exact fun _ _ => trivial))) | ((with_reducible show ∃ _, _); first | fail))
      refine ret fun β w' hm => ?_
      obtain ⟨q1, q2, q3⟩ := Mem.own hm 1 rfl
      exact ⟨_, cap, by rw [← hie]; rfl, by rw [e]; exact q1, by rw [e]; exact fresh_own q2 rfl, (fun h => by cases h), by rw [← hie]; exact q3, hm.below⟩
set_option maxRecDepth 100000 in
set_option maxHeartbeats 2000000 in
theorem rless_any (a b : Option Addr) (ca cb x y : Nat) (w : World) (hx : ExP.nd 10 x ≤ 100000000) (hy : ExP.nd 10 y ≤ 100000000) (hyx : y ≤ x) (hs : SlAt a (nv .i64 10 x) w) (ht : SlAt b (nv .i64 10 y) w) :
    Calls Tryz.prog 184 #[.slice a (ExP.nd 10 x) ca, .slice b (ExP.nd 10 y) cb] w (NatOut .i64 10 (x - y) w) := by
  obtain ⟨i0, hi, hz0, hz1, hz2⟩ := info_parts intInfo
  have hu := Tryz.underlying70
  have hsz := fun w => Tryz.sizeOf3 w
  have hzv := fun w => Tryz.zeroValue3 w
  have hdx := fun i => ExP.dig_lt (b := 10) (by omega) i x
  have hdy := fun i => ExP.dig_lt (b := 10) (by omega) i y
  have hgx := fun i (h : i < ExP.nd 10 x) => nv_get (k := .i64) h
  have hnx := nv_ne (k := .i64) (b := 10) (x := x)
  have HY := fun i (h : i ≤ 1000000000) w' hb => digitAt_any b cb y i w' hy h (SlAt.below ht hb)
  have hxlt := ExP.nd_lt (b := 10) (by omega) x
  have hTR := fun a (cap V : Nat) (w' : World) (hV : V < 10 ^ ExP.nd 10 x) hc hs' => rtrim_any a (ExP.nd 10 x) cap V w' hV hc hx hs'
  refine enter env_ok Tryz.func184 rfl Tryz.results184 Tryz.ntmps184 [] [] [.any (.slice a (ExP.nd 10 x) ca), .any (.slice b (ExP.nd 10 y) cb)] ⟨rfl, rfl, trivial⟩ (Nat.le_of_ble_eq_true rfl) w _ 1000 ?_
  generalize ExP.nd 10 x = n at *
  generalize ExP.nd 10 y = m at *
  repeat' (first | ((with_reducible first | show wpS .. | show putD .. | show putW .. | show splitG .. | show wpQ .. | show wpD .. | show wpX .. | show expX .. | show stepX .. | show keepR .. | show wpY ..); conv => whnf) | ((with_reducible show RetN ..); refine retB fun β => ?_) | ((with_reducible show _ ∧ _); first | (refine ⟨fun h => absurd h (by first | omega | decide), fun _ => ?_⟩) | (refine ⟨fun _ => ?_, fun h => absurd h (by first | omega | decide)⟩) | (refine ⟨fun _ => ?_, fun _ => ?_⟩) | (apply And.intro; · kernel_rfl) | (apply And.intro; · (show inK _ _; unfold inK; omega)) | (apply And.intro; · (show (_ : Int) ≤ 9223372036854775807; (try simp only [lenS]); omega))) | ((with_reducible show AllBe ..); refine allBe fun βe => ?_; conv => whnf) | ((with_reducible show bothX ..); refine bothI ?_ ?_; conv => whnf) | (with_reducible exact trivial) | ((with_reducible show CallN ..); refine call_of env_ok rfl 1000 ?_) | ((with_reducible show XopN ..); refine xop_of env_ok rfl 1000 ?_) | ((with_reducible show CallX ..); first | fail) | ((with_reducible show OpX ..); first | fail) | ((with_reducible show ∃ _ : SV, _); first | (refine ⟨_, ?ok, x_len Tryz.underlying70, ?_⟩; (case ok => exact fun _ _ => trivial))) | ((with_reducible show ∃ _, _); first | fail))
  refine loop env_ok rfl (T := {t : PlT // ExP.MinusI 10 x y t.i t.c t.S ∧ t.i ≤ n}) (fun t => apJ [(0, .any (.slice a n ca)), (1, .any (.slice b m cb)), (6, .int .i64 (t.1.c : Nat)), (10, .int .i64 (n : Nat)), (11, .int .i64 (t.1.i : Nat))] 5 35 t.1.i t.1.g t.1.cap (valsK .i64 (ExP.dgN 10 t.1.i t.1.S))) (fun t => n - t.1.i) ⟨⟨0, 0, 0, 0, 0⟩, ⟨by simp [Nat.mod_one], by simp, by simp⟩, Nat.zero_le _⟩ 1000 [] [] (fun t => by exact Nat.zero_le _) (by dsimp only [apJ]; ((with_reducible show wk _ _); repeat' (first | exact trivial | exact eqSV_refl _ | (refine eqI ?_) | (refine eqS ?_) | (with_reducible exact rfl) | apply And.intro | exact Nat.zero_lt_one | exact Nat.le_of_ble_eq_true rfl | (with_reducible assumption) | ((show (_ : Int) = _); (try dsimp only); omega) | ((show eqSV _ _); simp [eqSV, isB, bval, *]; done) | rfl))) (fun t I hI => ?_)
  obtain ⟨⟨i, c, D, g, cap⟩, hM, hin⟩ := t
  dsimp only at hM hin ⊢
  have hc := hM.bit
  have hD := hM.lt
  by_cases hlt : i < n
  · obtain ⟨ad, rfl⟩ := SlAt.some hs (hnx (by omega))
    have r1 := sl_read hs (hgx i hlt)
    have hn1 := ExP.minus_next (b := 10) (by omega) hM
    have hn0 := ExP.minus_next0 (b := 10) (by omega) hM
    have hdx := hdx i
    have hdy := hdy i
    have HY := HY i (by omega)
    have hrow := fun (v : Int) (d : Nat) (hd : d < 10) (hv : v = (d : Int)) => ExP.row_snoc (k := .i64) (b := 10) (i := i) (S := D) (by omega) hD hd hv
    generalize ExP.dig 10 i x = dx at *
    generalize ExP.dig 10 i y = dy at *
    cases i with
    | zero =>
      dsimp only [apJ]
      by_cases hb : dx < c + dy
      · repeat' (first | ((with_reducible first | show wpS .. | show putD .. | show putW .. | show splitG .. | show wpQ .. | show wpD .. | show wpX .. | show expX .. | show stepX .. | show keepR .. | show wpY ..); conv => whnf) | ((with_reducible show RetN ..); refine retB fun β => ?_) | ((with_reducible show _ ∧ _); first | (refine ⟨fun h => absurd h (by first | omega | decide), fun _ => ?_⟩) | (refine ⟨fun _ => ?_, fun h => absurd h (by first | omega | decide)⟩) | (refine ⟨fun _ => ?_, fun _ => ?_⟩) | (apply And.intro; · kernel_rfl) | (apply And.intro; · (show inK _ _; unfold inK; omega)) | (apply And.intro; · (show (_ : Int) ≤ 9223372036854775807; (try simp only [lenS]); omega))) | ((with_reducible show AllBe ..); refine allBe fun βe => ?_; conv => whnf) | ((with_reducible show bothX ..); refine bothI ?_ ?_; conv => whnf) | (with_reducible exact trivial) | ((with_reducible show CallN ..); refine call_of env_ok rfl 1000 ?_) | ((with_reducible show XopN ..); refine xop_of env_ok rfl 1000 ?_) | ((with_reducible show CallX ..); first | fail) | ((with_reducible show OpX ..); first | (refine opx_build1 (sz := 1) rfl rfl rfl (xs := [.int .i64 ((dx + 10 - (c + dy) : Nat) : Int)]) (fun β => by simp only [SV.dens, SV.den]; congr 2; omega) rfl (by omega) (by omega) hu hsz hzv (fun g1 => ?_)) | (refine opx_append0 (sz := 1) 0 rfl hu hi hz0 hz1 rfl (by omega) rfl rfl rfl (by unfold maxLen; omega) (by rw [hz2]; omega) (by simp [Value.oneCell']) (by omega) (fun g2 cap2 => ?_))) | ((with_reducible show ∃ _ : SV, _); first | (refine ⟨_, ?ok, x_len Tryz.underlying70, ?_⟩; (case ok => exact fun _ _ => trivial)) | (refine ⟨_, ?ok, x_index (j := 0) (by omega) Tryz.underlying70 (fun w => Tryz.sizeOf3 w) (by omega), ?_⟩; (case ok => exact fun _ _ => rfl)) | (refine ⟨.int .i64 (dx : Nat), fun _ _ => trivial, x_load1 (fun w => Tryz.isAgg3 w) (fun w' hb β => by rw [Nat.mul_one]; exact r1 w' hb), ?_⟩) | (refine ⟨.int .i64 (dy : Nat), by kernel_rfl, trivial, fun β w hm => HY w hm.below, ?_⟩)) | ((with_reducible show ∃ _, _); first | fail))
        refine hI _ ⟨⟨0 + 1, 1, D + (dx + 10 - (c + dy)) * 10 ^ 0, g2, cap2⟩, hn1 hb, by dsimp only; omega⟩ (by dsimp only; omega) (by dsimp only [apJ]; rw [← hrow _ (dx + 10 - (c + dy)) (by omega) rfl]; ((with_reducible show wk _ _); repeat' (first | exact trivial | exact eqSV_refl _ | (refine eqI ?_) | (refine eqS ?_) | (with_reducible exact rfl) | apply And.intro | exact Nat.zero_lt_one | exact Nat.le_of_ble_eq_true rfl | (with_reducible assumption) | ((show (_ : Int) = _); (try dsimp only); omega) | ((show eqSV _ _); simp [eqSV, isB, bval, *]; done) | rfl)); all_goals (exact fun b x h => h))
      · repeat' (first | ((with_reducible first | show wpS .. | show putD .. | show putW .. | show splitG .. | show wpQ .. | show wpD .. | show wpX .. | show expX .. | show stepX .. | show keepR .. | show wpY ..); conv => whnf) | ((with_reducible show RetN ..); refine retB fun β => ?_) | ((with_reducible show _ ∧ _); first | (refine ⟨fun h => absurd h (by first | omega | decide), fun _ => ?_⟩) | (refine ⟨fun _ => ?_, fun h => absurd h (by first | omega | decide)⟩) | (refine ⟨fun _ => ?_, fun _ => ?_⟩) | (apply And.intro; · kernel_rfl) | (apply And.intro; · (show inK _ _; unfold inK; omega)) | (apply And.intro; · (show (_ : Int) ≤ 9223372036854775807; (try simp only [lenS]); omega))) | ((with_reducible show AllBe ..); refine allBe fun βe => ?_; conv => whnf) | ((with_reducible show bothX ..); refine bothI ?_ ?_; conv => whnf) | (with_reducible exact trivial) | ((with_reducible show CallN ..); refine call_of env_ok rfl 1000 ?_) | ((with_reducible show XopN ..); refine xop_of env_ok rfl 1000 ?_) | ((with_reducible show CallX ..); first | fail) | ((with_reducible show OpX ..); first | (refine opx_build1 (sz := 1) rfl rfl rfl (xs := [.int .i64 ((dx - (c + dy) : Nat) : Int)]) (fun β => by simp only [SV.dens, SV.den]; congr 2; omega) rfl (by omega) (by omega) hu hsz hzv (fun g1 => ?_)) | (refine opx_append0 (sz := 1) 0 rfl hu hi hz0 hz1 rfl (by omega) rfl rfl rfl (by unfold maxLen; omega) (by rw [hz2]; omega) (by simp [Value.oneCell']) (by omega) (fun g2 cap2 => ?_))) | ((with_reducible show ∃ _ : SV, _); first | (refine ⟨_, ?ok, x_len Tryz.underlying70, ?_⟩; (case ok => exact fun _ _ => trivial)) | (refine ⟨_, ?ok, x_index (j := 0) (by omega) Tryz.underlying70 (fun w => Tryz.sizeOf3 w) (by omega), ?_⟩; (case ok => exact fun _ _ => rfl)) | (refine ⟨.int .i64 (dx : Nat), fun _ _ => trivial, x_load1 (fun w => Tryz.isAgg3 w) (fun w' hb β => by rw [Nat.mul_one]; exact r1 w' hb), ?_⟩) | (refine ⟨.int .i64 (dy : Nat), by kernel_rfl, trivial, fun β w hm => HY w hm.below, ?_⟩)) | ((with_reducible show ∃ _, _); first | fail))
        refine hI _ ⟨⟨0 + 1, 0, D + (dx - (c + dy)) * 10 ^ 0, g2, cap2⟩, hn0 hb, by dsimp only; omega⟩ (by dsimp only; omega) (by dsimp only [apJ]; rw [← hrow _ (dx - (c + dy)) (by omega) rfl]; ((with_reducible show wk _ _); repeat' (first | exact trivial | exact eqSV_refl _ | (refine eqI ?_) | (refine eqS ?_) | (with_reducible exact rfl) | apply And.intro | exact Nat.zero_lt_one | exact Nat.le_of_ble_eq_true rfl | (with_reducible assumption) | ((show (_ : Int) = _); (try dsimp only); omega) | ((show eqSV _ _); simp [eqSV, isB, bval, *]; done) | rfl)); all_goals (exact fun b x h => h))
    | succ i =>
      dsimp only [apJ]
      by_cases hb : dx < c + dy
      · repeat' (first | ((with_reducible first | show wpS .. | show putD .. | show putW .. | show splitG .. | show wpQ .. | show wpD .. | show wpX .. | show expX .. | show stepX .. | show keepR .. | show wpY ..); conv => whnf) | ((with_reducible show RetN ..); refine retB fun β => ?_) | ((with_reducible show _ ∧ _); first | (refine ⟨fun h => absurd h (by first | omega | decide), fun _ => ?_⟩) | (refine ⟨fun _ => ?_, fun h => absurd h (by first | omega | decide)⟩) | (refine ⟨fun _ => ?_, fun _ => ?_⟩) | (apply And.intro; · kernel_rfl) | (apply And.intro; · (show inK _ _; unfold inK; omega)) | (apply And.intro; · (show (_ : Int) ≤ 9223372036854775807; (try simp only [lenS]); omega))) | ((with_reducible show AllBe ..); refine allBe fun βe => ?_; conv => whnf) | ((with_reducible show bothX ..); refine bothI ?_ ?_; conv => whnf) | (with_reducible exact trivial) | ((with_reducible show CallN ..); refine call_of env_ok rfl 1000 ?_) | ((with_reducible show XopN ..); refine xop_of env_ok rfl 1000 ?_) | ((with_reducible show CallX ..); first | fail) | ((with_reducible show OpX ..); first | (refine opx_build1 (sz := 1) rfl rfl rfl (xs := [.int .i64 ((dx + 10 - (c + dy) : Nat) : Int)]) (fun β => by simp only [SV.dens, SV.den]; congr 2; omega) rfl (by omega) (by omega) hu hsz hzv (fun g1 => ?_)) | (refine opx_append (sz := 1) 1 2 rfl hu hi hz0 hz1 rfl (by omega) rfl rfl rfl rfl (by unfold maxLen; omega) (by rw [hz2]; omega) (by simp [Value.oneCell']) (by kernel_rfl) (Nat.zero_le _) (fun g2 cap2 => ?_))) | ((with_reducible show ∃ _ : SV, _); first | (refine ⟨_, ?ok, x_len Tryz.underlying70, ?_⟩; (case ok => exact fun _ _ => trivial)) | (refine ⟨_, ?ok, x_index (j := i + 1) (by omega) Tryz.underlying70 (fun w => Tryz.sizeOf3 w) (by omega), ?_⟩; (case ok => exact fun _ _ => rfl)) | (refine ⟨.int .i64 (dx : Nat), fun _ _ => trivial, x_load1 (fun w => Tryz.isAgg3 w) (fun w' hb β => by rw [Nat.mul_one]; exact r1 w' hb), ?_⟩) | (refine ⟨.int .i64 (dy : Nat), by kernel_rfl, trivial, fun β w hm => HY w hm.below, ?_⟩)) | ((with_reducible show ∃ _, _); first | fail))
        refine hI _ ⟨⟨i + 1 + 1, 1, D + (dx + 10 - (c + dy)) * 10 ^ (i + 1), g2, cap2⟩, hn1 hb, by dsimp only; omega⟩ (by dsimp only; omega) (by dsimp only [apJ]; rw [← hrow _ (dx + 10 - (c + dy)) (by omega) rfl]; ((with_reducible show wk _ _); repeat' (first | exact trivial | exact eqSV_refl _ | (refine eqI ?_) | (refine eqS ?_) | (with_reducible exact rfl) | apply And.intro | exact Nat.zero_lt_one | exact Nat.le_of_ble_eq_true rfl | (with_reducible assumption) | ((show (_ : Int) = _); (try dsimp only); omega) | ((show eqSV _ _); simp [eqSV, isB, bval, *]; done) | rfl)); all_goals (exact fun b x h => h))
      · repeat' (first | ((with_reducible first | show wpS .. | show putD .. | show putW .. | show splitG .. | show wpQ .. | show wpD .. | show wpX .. | show expX .. | show stepX .. | show keepR .. | show wpY ..); conv => whnf) | ((with_reducible show RetN ..); refine retB fun β => ?_) | ((with_reducible show _ ∧ _); first | (refine ⟨fun h => absurd h (by first | omega | decide), fun _ => ?_⟩) | (refine ⟨fun _ => ?_, fun h => absurd h (by first | omega | decide)⟩) | (refine ⟨fun _ => ?_, fun _ => ?_⟩) | (apply And.intro; · kernel_rfl) | (apply And.intro; · (show inK _ _; unfold inK; omega)) | (apply And.intro; · (show (_ : Int) ≤ 9223372036854775807; (try simp only [lenS]); omega))) | ((with_reducible show AllBe ..); refine allBe fun βe => ?_; conv => whnf) | ((with_reducible show bothX ..); refine bothI ?_ ?_; conv => whnf) | (with_reducible exact trivial) | ((with_reducible show CallN ..); refine call_of env_ok rfl 1000 ?_) | ((with_reducible show XopN ..); refine xop_of env_ok rfl 1000 ?_) | ((with_reducible show CallX ..); first | fail) | ((with_reducible show OpX ..); first | (refine opx_build1 (sz := 1) rfl rfl rfl (xs := [.int .i64 ((dx - (c + dy) : Nat) : Int)]) (fun β => by simp only [SV.dens, SV.den]; congr 2; omega) rfl (by omega) (by omega) hu hsz hzv (fun g1 => ?_)) | (refine opx_append (sz := 1) 1 2 rfl hu hi hz0 hz1 rfl (by omega) rfl rfl rfl rfl (by unfold maxLen; omega) (by rw [hz2]; omega) (by simp [Value.oneCell']) (by kernel_rfl) (Nat.zero_le _) (fun g2 cap2 => ?_))) | ((with_reducible show ∃ _ : SV, _); first | (refine ⟨_, ?ok, x_len Tryz.underlying70, ?_⟩; (case ok => exact fun _ _ => trivial)) | (refine ⟨_, ?ok, x_index (j := i + 1) (by omega) Tryz.underlying70 (fun w => Tryz.sizeOf3 w) (by omega), ?_⟩; (case ok => exact fun _ _ => rfl)) | (refine ⟨.int .i64 (dx : Nat), fun _ _ => trivial, x_load1 (fun w => Tryz.isAgg3 w) (fun w' hb β => by rw [Nat.mul_one]; exact r1 w' hb), ?_⟩) | (refine ⟨.int .i64 (dy : Nat), by kernel_rfl, trivial, fun β w hm => HY w hm.below, ?_⟩)) | ((with_reducible show ∃ _, _); first | fail))
        refine hI _ ⟨⟨i + 1 + 1, 0, D + (dx - (c + dy)) * 10 ^ (i + 1), g2, cap2⟩, hn0 hb, by dsimp only; omega⟩ (by dsimp only; omega) (by dsimp only [apJ]; rw [← hrow _ (dx - (c + dy)) (by omega) rfl]; ((with_reducible show wk _ _); repeat' (first | exact trivial | exact eqSV_refl _ | (refine eqI ?_) | (refine eqS ?_) | (with_reducible exact rfl) | apply And.intro | exact Nat.zero_lt_one | exact Nat.le_of_ble_eq_true rfl | (with_reducible assumption) | ((show (_ : Int) = _); (try dsimp only); omega) | ((show eqSV _ _); simp [eqSV, isB, bval, *]; done) | rfl)); all_goals (exact fun b x h => h))
  · obtain rfl : i = n := by omega
    obtain ⟨rfl, -⟩ := ExP.minus_end (b := 10) (by omega) hM hxlt hyx
    have hle := ExP.nd_le (b := 10) (by omega) hD
    cases i with
    | zero =>
      dsimp only [apJ]
      have h0 : ExP.nd 10 (x - y) = 0 := by omega
      have e : nv .i64 10 (x - y) = [] := List.length_eq_zero_iff.1 (by rw [nv_len, h0])
      have hT := fun w' => hTR none 0 (x - y) w' hD (Nat.le_refl _) (sl_nil _ _)
      rw [h0] at hT
      repeat' (first | ((with_reducible first | show wpS .. | show putD .. | show putW .. | show splitG .. | show wpQ .. | show wpD .. | show wpX .. | show expX .. | show stepX .. | show keepR .. | show wpY ..); conv => whnf) | ((with_reducible show RetN ..); refine retB fun β => ?_) | ((with_reducible show _ ∧ _); first | (refine ⟨fun h => absurd h (by first | omega | decide), fun _ => ?_⟩) | (refine ⟨fun _ => ?_, fun h => absurd h (by first | omega | decide)⟩) | (refine ⟨fun _ => ?_, fun _ => ?_⟩) | (apply And.intro; · kernel_rfl) | (apply And.intro; · (show inK _ _; unfold inK; omega)) | (apply And.intro; · (show (_ : Int) ≤ 9223372036854775807; (try simp only [lenS]); omega))) | ((with_reducible show AllBe ..); refine allBe fun βe => ?_; conv => whnf) | ((with_reducible show bothX ..); refine bothI ?_ ?_; conv => whnf) | (with_reducible exact trivial) | ((with_reducible show CallN ..); refine call_of env_ok rfl 1000 ?_) | ((with_reducible show XopN ..); refine xop_of env_ok rfl 1000 ?_) | ((with_reducible show CallX ..); first | (refine callX (.any (.slice none 0 0)) (by kernel_rfl) rfl (rfl) (fun β w hm => hT w) ?_)) | ((with_reducible show OpX ..); first | fail) | ((with_reducible show ∃ _ : SV, _); first | (refine ⟨_, ?ok, x_len Tryz.underlying70, ?_⟩; (case ok => exact fun _ _ => trivial))) | ((with_reducible show ∃ _, _); first | fail))
      refine ret fun β w' hm => ?_
      exact ⟨none, 0, by rw [h0]; rfl, by rw [e]; exact sl_nil _ _, fun h => absurd e h, fun _ => rfl, by rw [h0]; exact Nat.le_refl _, hm.below⟩
    | succ i =>
      dsimp only [apJ]
      repeat' (first | ((with_reducible first | show wpS .. | show putD .. | show putW .. | show splitG .. | show wpQ .. | show wpD .. | show wpX .. | show expX .. | show stepX .. | show keepR .. | show wpY ..); conv => whnf) | ((with_reducible show RetN ..); refine retB fun β => ?_) | ((with_reducible show _ ∧ _); first | (refine ⟨fun h => absurd h (by first | omega | decide), fun _ => ?_⟩) | (refine ⟨fun _ => ?_, fun h => absurd h (by first | omega | decide)⟩) | (refine ⟨fun _ => ?_, fun _ => ?_⟩) | (apply And.intro; · kernel_rfl) | (apply And.intro; · (show inK _ _; unfold inK; omega)) | (apply And.intro; · (show (_ : Int) ≤ 9223372036854775807; (try simp only [lenS]); omega))) | ((with_reducible show AllBe ..); refine allBe fun βe => ?_; conv => whnf) | ((with_reducible show bothX ..); refine bothI ?_ ?_; conv => whnf) | (with_reducible exact trivial) | ((with_reducible show CallN ..); refine call_of env_ok rfl 1000 ?_) | ((with_reducible show XopN ..); refine xop_of env_ok rfl 1000 ?_) | ((with_reducible show CallX ..); first | (refine callX (.any (.slice (some ⟨g, 0, none⟩) (ExP.nd 10 (x - y)) cap)) (by kernel_rfl) rfl (rfl) (fun β w hm => hTR (some ⟨g, 0, none⟩) cap (x - y) w hD (Mem.own hm 1 rfl).2.2 (Mem.own hm 1 rfl).1) ?_)) | ((with_reducible show OpX ..); first | fail) | ((with_reducible show ∃ _ : SV, _); first | (refine ⟨_, ?ok, x_len Tryz.underlying70, ?_⟩; (case ok => exact fun _ _ => trivial))) | ((with_reducible show ∃ _, _); first | fail))
      refine ret fun β w' hm => ?_
      obtain ⟨q1, q2, q3⟩ := Mem.own hm 1 rfl
      exact ⟨_, cap, rfl, sl_pre q1 (dgN_pre hle .i64), fresh_own q2 rfl, (fun h => by cases h), Nat.le_trans hle q3, hm.below⟩
end Go.Proofs.YtdkhkfdenlabaaaGreatDoor
namespace Go.Proofs.YtdkhkfdenlabaaaGreatDoor
open Sym
namespace ExP
def phA (b x y i N k : Nat) : List Nat := tab N (fun j => dig b j ((x % b ^ i) * y) + if i ≤ j ∧ j < i + k then dig b i x * dig b (j - i) y else 0)
def phB (b x y i N k S : Nat) : List Nat := tab N (fun j => if j < k then dig b j S else mixP b x y i j)
theorem phA_zero (b x y i N : Nat) : phA b x y i N 0 = dgN b N ((x % b ^ i) * y) := by
  unfold phA dgN
  apply tab_congr
  intro j hj
  rw [if_neg (by omega), Nat.add_zero]
theorem phA_set (b x y i N k : Nat) : (phA b x y i N k).set (i + k) (dig b (i + k) ((x % b ^ i) * y) + dig b i x * dig b k y) = phA b x y i N (k + 1) := by
  unfold phA
  rw [tab_set]
  apply tab_congr
  intro j hj
  by_cases h : j = i + k
  · subst h
    rw [if_pos rfl, if_pos (by omega), Nat.add_sub_cancel_left]
  · rw [if_neg h]
    congr 1
    by_cases h2 : i ≤ j ∧ j < i + k
    · rw [if_pos h2, if_pos (by omega)]
    · rw [if_neg h2, if_neg (by omega)]
theorem phA_get {b x y i N k : Nat} (h : i + k < N) : (phA b x y i N k)[i + k]? = some (dig b (i + k) ((x % b ^ i) * y)) := by
  unfold phA; rw [tab_get _ _ _ h, if_neg (by omega), Nat.add_zero]
theorem phA_end {b x y i N : Nat} (hb : 2 ≤ b) : phA b x y i N (nd b y) = phB b x y i N i (((x % b ^ i) * y) % b ^ i) := by
  unfold phA phB mixP
  apply tab_congr
  intro j hj
  by_cases h : j < i
  · rw [if_pos h, if_neg (by omega), Nat.add_zero]
    have e := parts b ((x % b ^ i) * y) i
    have hl : (x % b ^ i) * y % b ^ i < b ^ i := Nat.mod_lt _ (Nat.pow_pos (by omega))
    have e2 := Nat.mod_add_div ((x % b ^ i) * y) (b ^ i)
    rw [Nat.mul_comm (b ^ i)] at e2
    have e3 := dig_add (by omega : 0 < b) hl (m := (x % b ^ i) * y / b ^ i) j
    rw [e2, if_pos h] at e3
    exact e3
  · rw [if_neg h]
    congr 1
    by_cases h2 : j < i + nd b y
    · rw [if_pos ⟨by omega, h2⟩, if_pos (by omega)]
    · rw [if_neg (by omega), if_pos (by omega), dig_big hb (by omega : nd b y ≤ j - i), Nat.mul_zero]
theorem phB_set {b x y i N k S d : Nat} (hb : 0 < b) (hS : S < b ^ k) (hd : d < b) : (phB b x y i N k S).set k d = phB b x y i N (k + 1) (S + d * b ^ k) := by
  unfold phB
  rw [tab_set]
  apply tab_congr
  intro j hj
  have e := dig_add hb hS (m := d) j
  by_cases h1 : j < k
  · rw [if_neg (by omega), if_pos h1, if_pos (by omega), e, if_pos h1]
  · by_cases h2 : j = k
    · subst h2
      rw [if_pos rfl, if_pos (by omega), e, if_neg h1, Nat.sub_self]
      simp [dig, Nat.mod_eq_of_lt hd]
    · rw [if_neg h2, if_neg h1, if_neg (by omega)]
theorem phB_get {b x y i N k S : Nat} (h : k < N) : (phB b x y i N k S)[k]? = some (mixP b x y i k) := by
  unfold phB; rw [tab_get _ _ _ h, if_neg (by omega)]
theorem phB_end (b x y i N S : Nat) : phB b x y i N N S = dgN b N S := by
  unfold phB dgN; exact tab_congr fun k hk => by rw [if_pos hk]
theorem mixP_le {x y i k : Nat} : mixP 10 x y i k ≤ 90 := by
  unfold mixP
  have h1 := dig_lt (b := 10) (by omega) k ((x % 10 ^ i) * y)
  have h2 := dig_lt (b := 10) (by omega) i x
  have h3 := dig_lt (b := 10) (by omega) (k - i) y
  have h4 : dig 10 i x * dig 10 (k - i) y ≤ 9 * 9 := Nat.mul_le_mul (by omega) (by omega)
  split <;> omega
end ExP
end Go.Proofs.YtdkhkfdenlabaaaGreatDoor
