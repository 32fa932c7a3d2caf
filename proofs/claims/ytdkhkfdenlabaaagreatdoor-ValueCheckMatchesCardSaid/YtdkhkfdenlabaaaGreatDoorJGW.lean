/- Values, the reference: errors of arrays; every value. Values, the program: values compared (begun). Powers of the reference; mod. Powers of the program's numbers. Powers of the program's fractions. The law of operations. The law of powers. Values, the reference: makers of values. Values, the program: a number that is entered; 25 percent. Values, the program: the calendar. Values, the reference: the calendar. -/
import Derived.Test.YtdkhkfdenlabaaaGreatDoorJGV
import Derived.Test.YtdkhkfdenlabaaaGreatDoorJVaW10
import Derived.Test.YtdkhkfdenlabaaaGreatDoorJGQ
import Derived.Test.YtdkhkfdenlabaaaGreatDoorJGO
import Derived.Test.YtdkhkfdenlabaaaGreatDoorJGE
import Derived.Test.YtdkhkfdenlabaaaGreatDoorJGU
import Derived.Test.YtdkhkfdenlabaaaGreatDoorJGI
import Derived.Test.YtdkhkfdenlabaaaGreatDoorJGT
set_option linter.unusedSimpArgs false
set_option linter.unusedVariables false
namespace Go.Proofs.YtdkhkfdenlabaaaGreatDoor
open Go.RowKit
open Sym
attribute [local irreducible] Calls Sym.AggEq ExP.nd ExP.dig ExP.upd ExP.writeF ExP.writeE
set_option maxRecDepth 100000 in
set_option maxHeartbeats 8000000 in
theorem rverr_arr (t : VaP.VT) (a : Option Addr) (cap : Nat) (w : World) (hw : XV w) (hr : XR w) (ht : VIn w t a cap) (h5 : t.kind = 5) (FZ : Bool) (hFZ : FZ = decide (t.num.1 = [] ∧ t.num.2 = [])) (V : Int) (hB : VaP.zBad t → V = 4) (hO : ¬ VaP.zBad t → V = VaP.arrE t) :
    Calls Tryz.prog 14 #[vtV t a cap] w fun e w' => e = .returned (.int .i64 V) ∧ Below w.heap.size w w' := by
  cases ht with
  | mk t a cap ps hf hc hn hi hs =>
  have hE : VaP.arrE t = if t.rows < 1 ∨ 100000 < t.rows ∨ t.cols < 1 ∨ 100000 < t.cols then 2 else if 100000 < t.rows * t.cols then 3 else if (t.items.length : Int) ≠ t.rows * t.cols then 4 else VaP.itsE t.items := rfl
  rw [hE] at hO
  have C := fun (i : Nat) (x : VaP.VT) (hx : t.items[i]? = some x) (h5 : x.kind ≠ 5) (w' : World) (h : Below w.heap.size w w') => rverr_sc x (ps i).1 (ps i).2 w' (hw.below h) (hr.below h) (hi i x hx).fit h5
  clear hf hn hi hE
  obtain ⟨k, ⟨n1, n2⟩, tx, on, cd, R, L, its⟩ := t
  unfold vtV at *
  unfold VaP.zBad at hB hO
  dsimp only at *
  subst h5
  have hFZ' : FZ = true ↔ (n1 = [] ∧ n2 = []) := by rw [hFZ, decide_eq_true_eq]
  have hagg := fracAggB n1 n2 FZ hFZ
  clear hFZ hw hr
  have hmul : ¬ (R < 1 ∨ 100000 < R ∨ L < 1 ∨ 100000 < L) → 1 ≤ R * L ∧ R * L ≤ 10000000000 := fun h => by
    have h1 : 1 ≤ R := by omega
    have h2 : 1 ≤ L := by omega
    have h3 : R * L ≤ 100000 * 100000 := Int.mul_le_mul (by omega) (by omega) (by omega) (by omega)
    have h4 : 1 * 1 ≤ R * L := Int.mul_le_mul h1 h2 (by omega) (by omega)
    omega
  generalize hn : its.length = n at *
  by_cases hz : (5 : Int) ≠ 1 ∧ ¬ (n1 = [] ∧ n2 = []) ∨ (5 : Int) ≠ 2 ∧ tx ≠ [] ∨ (5 : Int) ≠ 3 ∧ on = true ∨ (5 : Int) ≠ 4 ∧ cd ≠ 0 ∨ (5 : Int) ≠ 5 ∧ (R ≠ 0 ∨ L ≠ 0 ∨ n ≠ 0)
  · rw [hB hz]
    clear hB hO hmul C hs
    refine enter env_ok Tryz.func14 rfl Tryz.results14 Tryz.ntmps14 [] [] [.agg [.int .i64 5, .str n1, .str n2, .str tx, .bool on, .int .i64 cd, .int .i64 R, .int .i64 L, .any (.slice a n cap)]] ⟨⟨trivial, trivial, trivial, trivial, trivial, trivial, trivial, trivial, rfl, trivial⟩, trivial⟩ (Nat.le_of_ble_eq_true rfl) w _ 1000 ?_
    repeat' (first | ((with_reducible first | show wpS .. | show putD .. | show putW .. | show splitG .. | show wpQ .. | show wpD .. | show wpX .. | show expX .. | show stepX .. | show keepR .. | show wpY ..); conv => whnf) | ((with_reducible show RetN ..); refine retB fun β => ?_) | ((with_reducible show _ ∧ _); first | (refine ⟨fun h => absurd h (by first | omega | decide), fun _ => ?_⟩) | (refine ⟨fun _ => ?_, fun h => absurd h (by first | omega | decide)⟩) | (refine ⟨fun _ => ?_, fun _ => ?_⟩) | (apply And.intro; · kernel_rfl) | (apply And.intro; · (show inK _ _; unfold inK; omega)) | (apply And.intro; · (show (_ : Int) ≤ 9223372036854775807; (try simp only [lenS]); omega))) | ((with_reducible show AllBe ..); refine allBe fun βe => ?_; conv => whnf) | ((with_reducible show bothX ..); refine bothI ?_ ?_; conv => whnf) | (with_reducible exact trivial) | ((with_reducible show CallN ..); refine call_of env_ok rfl 1000 ?_) | ((with_reducible show XopN ..); refine xop_of env_ok rfl 1000 ?_) | ((with_reducible show CallX ..); first | (refine callX (.bool (decide (5 = 1) || FZ)) (by kernel_rfl) rfl (trivial) (fun β w hm => only_any 1 5 (FZ) (β 0) w (row0_cell (i := 0) (v := .int .i64 5) hm rfl rfl)) ?_) | (refine callX (.bool (decide (5 = 2) || decide (tx = []))) (by kernel_rfl) rfl (trivial) (fun β w hm => only_any 2 5 (decide (tx = [])) (β 0) w (row0_cell (i := 0) (v := .int .i64 5) hm rfl rfl)) ?_) | (refine callX (.bool (decide (5 = 3) || !on)) (by kernel_rfl) rfl (trivial) (fun β w hm => only_any 3 5 (!on) (β 0) w (row0_cell (i := 0) (v := .int .i64 5) hm rfl rfl)) ?_) | (refine callX (.bool (decide (5 = 4) || decide (cd = 0))) (by kernel_rfl) rfl (trivial) (fun β w hm => only_any 4 5 (decide (cd = 0)) (β 0) w (row0_cell (i := 0) (v := .int .i64 5) hm rfl rfl)) ?_) | (refine callX (.bool (decide (5 = 5) || false)) (by kernel_rfl) rfl (trivial) (fun β w hm => only_any 5 5 (false) (β 0) w (row0_cell (i := 0) (v := .int .i64 5) hm rfl rfl)) ?_) | (refine callX (.bool (decide (5 = 5) || decide ((n : Int) = 0))) (by kernel_rfl) rfl (trivial) (fun β w hm => only_any 5 5 (decide ((n : Int) = 0)) (β 0) w (row0_cell (i := 0) (v := .int .i64 5) hm rfl rfl)) ?_) | fail) | ((with_reducible show OpX ..); first | fail) | ((with_reducible show ∃ _ : SV, _); first | (refine ⟨_, ?ok, x_len Tryz.underlying26, ?_⟩; (case ok => exact fun _ _ => trivial)) | (refine ⟨_, ?ok, x_func, ?_⟩; (case ok => exact fun _ h => h))) | ((with_reducible show ∃ _, _); first | (refine ⟨FZ, hagg, ?_⟩) | fail))
    all_goals clear hagg
    all_goals first | rfl | (exfalso; simp_all; done) | (exfalso; simp_all; omega) | trace_state
  have hO := hO hz
  clear hB
  by_cases hb : R < 1 ∨ 100000 < R ∨ L < 1 ∨ 100000 < L
  · clear hmul C hs
    rw [if_pos hb] at hO
    rw [hO]
    clear hO
    refine enter env_ok Tryz.func14 rfl Tryz.results14 Tryz.ntmps14 [] [] [.agg [.int .i64 5, .str n1, .str n2, .str tx, .bool on, .int .i64 cd, .int .i64 R, .int .i64 L, .any (.slice a n cap)]] ⟨⟨trivial, trivial, trivial, trivial, trivial, trivial, trivial, trivial, rfl, trivial⟩, trivial⟩ (Nat.le_of_ble_eq_true rfl) w _ 1000 ?_
    repeat' (first | ((with_reducible first | show wpS .. | show putD .. | show putW .. | show splitG .. | show wpQ .. | show wpD .. | show wpX .. | show expX .. | show stepX .. | show keepR .. | show wpY ..); conv => whnf) | ((with_reducible show RetN ..); refine retB fun β => ?_) | ((with_reducible show _ ∧ _); first | (refine ⟨fun h => absurd h (by first | omega | decide), fun _ => ?_⟩) | (refine ⟨fun _ => ?_, fun h => absurd h (by first | omega | decide)⟩) | (refine ⟨fun _ => ?_, fun _ => ?_⟩) | (apply And.intro; · kernel_rfl) | (apply And.intro; · (show inK _ _; unfold inK; omega)) | (apply And.intro; · (show (_ : Int) ≤ 9223372036854775807; (try simp only [lenS]); omega))) | ((with_reducible show AllBe ..); refine allBe fun βe => ?_; conv => whnf) | ((with_reducible show bothX ..); refine bothI ?_ ?_; conv => whnf) | (with_reducible exact trivial) | ((with_reducible show CallN ..); refine call_of env_ok rfl 1000 ?_) | ((with_reducible show XopN ..); refine xop_of env_ok rfl 1000 ?_) | ((with_reducible show CallX ..); first | (refine callX (.bool (decide (5 = 1) || FZ)) (by kernel_rfl) rfl (trivial) (fun β w hm => only_any 1 5 (FZ) (β 0) w (row0_cell (i := 0) (v := .int .i64 5) hm rfl rfl)) ?_) | (refine callX (.bool (decide (5 = 2) || decide (tx = []))) (by kernel_rfl) rfl (trivial) (fun β w hm => only_any 2 5 (decide (tx = [])) (β 0) w (row0_cell (i := 0) (v := .int .i64 5) hm rfl rfl)) ?_) | (refine callX (.bool (decide (5 = 3) || !on)) (by kernel_rfl) rfl (trivial) (fun β w hm => only_any 3 5 (!on) (β 0) w (row0_cell (i := 0) (v := .int .i64 5) hm rfl rfl)) ?_) | (refine callX (.bool (decide (5 = 4) || decide (cd = 0))) (by kernel_rfl) rfl (trivial) (fun β w hm => only_any 4 5 (decide (cd = 0)) (β 0) w (row0_cell (i := 0) (v := .int .i64 5) hm rfl rfl)) ?_) | (refine callX (.bool (decide (5 = 5) || false)) (by kernel_rfl) rfl (trivial) (fun β w hm => only_any 5 5 (false) (β 0) w (row0_cell (i := 0) (v := .int .i64 5) hm rfl rfl)) ?_) | (refine callX (.bool (decide (5 = 5) || decide ((n : Int) = 0))) (by kernel_rfl) rfl (trivial) (fun β w hm => only_any 5 5 (decide ((n : Int) = 0)) (β 0) w (row0_cell (i := 0) (v := .int .i64 5) hm rfl rfl)) ?_) | fail) | ((with_reducible show OpX ..); first | fail) | ((with_reducible show ∃ _ : SV, _); first | (refine ⟨_, ?ok, x_len Tryz.underlying26, ?_⟩; (case ok => exact fun _ _ => trivial)) | (refine ⟨_, ?ok, x_func, ?_⟩; (case ok => exact fun _ h => h))) | ((with_reducible show ∃ _, _); first | (refine ⟨FZ, hagg, ?_⟩) | fail))
    all_goals clear hagg
    all_goals first | rfl | (exfalso; omega) | (exfalso; simp_all; done) | (exfalso; simp_all; omega) | trace_state
  · have hm := hmul hb
    clear hmul
    rw [if_neg hb] at hO
    refine enter env_ok Tryz.func14 rfl Tryz.results14 Tryz.ntmps14 [] [] [.agg [.int .i64 5, .str n1, .str n2, .str tx, .bool on, .int .i64 cd, .int .i64 R, .int .i64 L, .any (.slice a n cap)]] ⟨⟨trivial, trivial, trivial, trivial, trivial, trivial, trivial, trivial, rfl, trivial⟩, trivial⟩ (Nat.le_of_ble_eq_true rfl) w _ 1000 ?_
    repeat' (first | ((with_reducible first | show wpS .. | show putD .. | show putW .. | show splitG .. | show wpQ .. | show wpD .. | show wpX .. | show expX .. | show stepX .. | show keepR .. | show wpY ..); conv => whnf) | ((with_reducible show RetN ..); refine retB fun β => ?_) | ((with_reducible show _ ∧ _); first | (refine ⟨fun h => absurd h (by first | omega | decide), fun _ => ?_⟩) | (refine ⟨fun _ => ?_, fun h => absurd h (by first | omega | decide)⟩) | (refine ⟨fun _ => ?_, fun _ => ?_⟩) | (apply And.intro; · kernel_rfl) | (apply And.intro; · (show inK _ _; unfold inK; omega)) | (apply And.intro; · (show (_ : Int) ≤ 9223372036854775807; (try simp only [lenS]); omega))) | ((with_reducible show AllBe ..); refine allBe fun βe => ?_; conv => whnf) | ((with_reducible show bothX ..); refine bothI ?_ ?_; conv => whnf) | (with_reducible exact trivial) | ((with_reducible show CallN ..); refine call_of env_ok rfl 1000 ?_) | ((with_reducible show XopN ..); refine xop_of env_ok rfl 1000 ?_) | ((with_reducible show CallX ..); first | (refine callX (.bool (decide (5 = 1) || FZ)) (by kernel_rfl) rfl (trivial) (fun β w hm => only_any 1 5 (FZ) (β 0) w (row0_cell (i := 0) (v := .int .i64 5) hm rfl rfl)) ?_) | (refine callX (.bool (decide (5 = 2) || decide (tx = []))) (by kernel_rfl) rfl (trivial) (fun β w hm => only_any 2 5 (decide (tx = [])) (β 0) w (row0_cell (i := 0) (v := .int .i64 5) hm rfl rfl)) ?_) | (refine callX (.bool (decide (5 = 3) || !on)) (by kernel_rfl) rfl (trivial) (fun β w hm => only_any 3 5 (!on) (β 0) w (row0_cell (i := 0) (v := .int .i64 5) hm rfl rfl)) ?_) | (refine callX (.bool (decide (5 = 4) || decide (cd = 0))) (by kernel_rfl) rfl (trivial) (fun β w hm => only_any 4 5 (decide (cd = 0)) (β 0) w (row0_cell (i := 0) (v := .int .i64 5) hm rfl rfl)) ?_) | (refine callX (.bool (decide (5 = 5) || false)) (by kernel_rfl) rfl (trivial) (fun β w hm => only_any 5 5 (false) (β 0) w (row0_cell (i := 0) (v := .int .i64 5) hm rfl rfl)) ?_) | (refine callX (.bool (decide (5 = 5) || decide ((n : Int) = 0))) (by kernel_rfl) rfl (trivial) (fun β w hm => only_any 5 5 (decide ((n : Int) = 0)) (β 0) w (row0_cell (i := 0) (v := .int .i64 5) hm rfl rfl)) ?_) | fail) | ((with_reducible show OpX ..); first | fail) | ((with_reducible show ∃ _ : SV, _); first | (refine ⟨_, ?ok, x_len Tryz.underlying26, ?_⟩; (case ok => exact fun _ _ => trivial)) | (refine ⟨_, ?ok, x_func, ?_⟩; (case ok => exact fun _ h => h))) | ((with_reducible show ∃ _, _); first | (refine ⟨FZ, hagg, ?_⟩) | fail))
    all_goals clear hagg
    all_goals first | (exfalso; omega) | (rw [hO, if_pos (by assumption)]; rfl) | (rw [hO, if_neg (by assumption), if_pos (fun h => (by assumption : ¬ R * L = (n : Int)) h.symm)]; rfl) | (exfalso; clear hs C hO; simp_all; done) | skip
    all_goals rw [if_neg (by omega), if_neg (by omega)] at hO
    all_goals rw [hO]
    all_goals clear hO
    refine loop env_ok rfl (T := {i : Nat // i ≤ n ∧ VaP.itsE (its.take i) = 0}) (fun t => ⟨[(131, .any (.slice a n cap)), (132, .int .i64 (n : Nat)), (133, .int .i64 (t.1 : Nat))], [], 0, 146⟩) (fun t => n - t.1) ⟨0, Nat.zero_le _, by simp [VaP.itsE]⟩ 1000 [] [] (fun _ => Nat.zero_le _) (by ((with_reducible show wk _ _); repeat' (first | exact trivial | exact eqSV_refl _ | (refine eqI ?_) | (refine eqS ?_) | (with_reducible exact rfl) | apply And.intro | exact Nat.zero_lt_one | exact Nat.le_of_ble_eq_true rfl | (with_reducible assumption) | ((show (_ : Int) = _); (try dsimp only); omega) | ((show eqSV _ _); simp [eqSV, isB, bval, *]; done) | rfl))) (fun t I hI => ?_)
    obtain ⟨i, hi, hzz⟩ := t
    dsimp only
    by_cases hlt : i < n
    · obtain ⟨x, hx⟩ : ∃ x, its[i]? = some x := ⟨its[i]'(by omega), List.getElem?_eq_getElem (by omega)⟩
      obtain ⟨ad, rfl, hblk, hcell⟩ := hs i x hx
      have hat := itsE_at hzz hx
      have hnx := itsE_next hzz hx
      have Cx := C i x hx
      have hiE : VaP.itE x = if x.kind = 5 then 8 else VaP.vErr0 x := rfl
      have hld : ∀ w', Below w.heap.size w w' → ∀ (β : Nat → Nat) (j : Nat) (v : Value), (SV.dens β [.int .i64 x.kind, .str x.num.1, .str x.num.2, .str x.text, .bool x.on, .int .i64 x.code, .int .i64 x.rows, .int .i64 x.cols, .any (.slice (ps i).1 x.items.length (ps i).2)])[j]? = some v → w'.cell? ((ad.add (i * 9)).add j) = some v := fun w' hb β j v hv => by
        rw [Go.Deep.add_add]
        exact cell_below (hcell j v hv) hb
      unfold vtV at Cx
      clear hs C hcell hx hb hm hz hFZ'
      generalize (ps i).1 = p1 at *
      generalize (ps i).2 = p2 at *
      generalize VaP.vErr0 x = XE at *
      generalize VaP.itE x = IE at *
      obtain ⟨xk, ⟨m1, m2⟩, xt, xo, xc, xr, xl, xi⟩ := x
      dsimp only at *
      repeat' (first | ((with_reducible first | show wpS .. | show putD .. | show putW .. | show splitG .. | show wpQ .. | show wpD .. | show wpX .. | show expX .. | show stepX .. | show keepR .. | show wpY ..); conv => whnf) | ((with_reducible show RetN ..); refine retB fun β => ?_) | ((with_reducible show _ ∧ _); first | (refine ⟨fun h => absurd h (by first | omega | decide), fun _ => ?_⟩) | (refine ⟨fun _ => ?_, fun h => absurd h (by first | omega | decide)⟩) | (refine ⟨fun _ => ?_, fun _ => ?_⟩) | (apply And.intro; · kernel_rfl) | (apply And.intro; · (show inK _ _; unfold inK; omega)) | (apply And.intro; · (show (_ : Int) ≤ 9223372036854775807; (try simp only [lenS]); omega))) | ((with_reducible show AllBe ..); refine allBe fun βe => ?_; conv => whnf) | ((with_reducible show bothX ..); refine bothI ?_ ?_; conv => whnf) | (with_reducible exact trivial) | ((with_reducible show CallN ..); refine call_of env_ok rfl 1000 ?_) | ((with_reducible show XopN ..); refine xop_of env_ok rfl 1000 ?_) | ((with_reducible show CallX ..); first | (refine callX (.int .i64 XE) (by kernel_rfl) rfl (trivial) (fun β w hm => Cx (by assumption) w hm.below) ?_)) | ((with_reducible show OpX ..); first | fail) | ((with_reducible show ∃ _ : SV, _); first | (refine ⟨_, ?ok, x_index (j := i) rfl Tryz.underlying26 (fun w => Tryz.sizeOf28 w) (by omega), ?_⟩; (case ok => exact fun _ _ => rfl)) | (refine ⟨_, ?ok, x_loadAgg (vs := [.int .i64 xk, .str m1, .str m2, .str xt, .bool xo, .int .i64 xc, .int .i64 xr, .int .i64 xl, .any (.slice p1 xi.length p2)]) (fun w => Tryz.isAgg28 w) (fun w => Tryz.sizeOf28 w) hld, ?_⟩; (case ok => exact fun _ _ => ⟨trivial, trivial, trivial, trivial, trivial, trivial, trivial, trivial, rfl, trivial⟩))) | ((with_reducible show ∃ _, _); first | fail))
      all_goals first | (exfalso; omega) | (have e : IE = 8 := by { rw [hiE, if_pos (by assumption)] }; rw [hat, e, if_pos (by decide)]; rfl) | (have e : IE = XE := by { rw [hiE, if_neg (by assumption)] }; rw [hat, e, if_pos (by assumption)]; rfl) | (refine hI _ ⟨i + 1, by omega, hnx (by rw [hiE, if_neg (by assumption)]; omega)⟩ (by dsimp only; omega) (by ((with_reducible show wk _ _); repeat' (first | exact trivial | exact eqSV_refl _ | (refine eqI ?_) | (refine eqS ?_) | (with_reducible exact rfl) | apply And.intro | exact Nat.zero_lt_one | exact Nat.le_of_ble_eq_true rfl | (with_reducible assumption) | ((show (_ : Int) = _); (try dsimp only); omega) | ((show eqSV _ _); simp [eqSV, isB, bval, *]; done) | rfl))); done) | trace_state
    · have e : i = n := by omega
      subst e
      rw [← hn, List.take_length] at hzz
      rw [hzz]
      repeat' (first | ((with_reducible first | show wpS .. | show putD .. | show putW .. | show splitG .. | show wpQ .. | show wpD .. | show wpX .. | show expX .. | show stepX .. | show keepR .. | show wpY ..); conv => whnf) | ((with_reducible show RetN ..); refine retB fun β => ?_) | ((with_reducible show _ ∧ _); first | (refine ⟨fun h => absurd h (by first | omega | decide), fun _ => ?_⟩) | (refine ⟨fun _ => ?_, fun h => absurd h (by first | omega | decide)⟩) | (refine ⟨fun _ => ?_, fun _ => ?_⟩) | (apply And.intro; · kernel_rfl) | (apply And.intro; · (show inK _ _; unfold inK; omega)) | (apply And.intro; · (show (_ : Int) ≤ 9223372036854775807; (try simp only [lenS]); omega))) | ((with_reducible show AllBe ..); refine allBe fun βe => ?_; conv => whnf) | ((with_reducible show bothX ..); refine bothI ?_ ?_; conv => whnf) | (with_reducible exact trivial) | ((with_reducible show CallN ..); refine call_of env_ok rfl 1000 ?_) | ((with_reducible show XopN ..); refine xop_of env_ok rfl 1000 ?_) | ((with_reducible show CallX ..); first | fail) | ((with_reducible show OpX ..); first | fail) | ((with_reducible show ∃ _ : SV, _); first | fail) | ((with_reducible show ∃ _, _); first | fail))
      all_goals first | rfl | (exfalso; omega)
/-- the error of any value -/
theorem rverr_any (t : VaP.VT) (a : Option Addr) (cap : Nat) (w : World) (hw : XV w) (hr : XR w) (ht : VIn w t a cap) : Calls Tryz.prog 14 #[vtV t a cap] w fun e w' => e = .returned (.int .i64 (VaP.vErr t)) ∧ Below w.heap.size w w' := by
  have hv : VaP.vErr t = if VaP.vErr0 t ≠ 0 ∨ t.kind ≠ 5 then VaP.vErr0 t else VaP.arrE t := rfl
  by_cases h5 : t.kind = 5
  · refine rverr_arr t a cap w hw hr ht h5 _ rfl _ (fun h => ?_) (fun h => ?_)
    · have h0 := vErr0_bad (t := t) (by omega) h
      rw [hv, if_pos (.inl (by omega)), h0]
    · have h0 : VaP.vErr0 t = 0 := by
        rw [vErr0_ok (by omega) h, if_neg (by omega), if_neg (by omega), if_neg (by omega)]
      rw [hv, if_neg (by omega)]
  · rw [hv, if_pos (.inr h5)]
    exact rverr_sc t a cap w hw hr ht.fit h5
end Go.Proofs.YtdkhkfdenlabaaaGreatDoor
namespace Go.Proofs.YtdkhkfdenlabaaaGreatDoor
open Go.RowKit
open Sym
attribute [local irreducible] Calls Sym.AggEq ExP.nd ExP.dig ExP.upd ExP.writeF ExP.writeE
set_option maxRecDepth 100000 in
theorem vwhole_any (n : Int) (w : World) (hw : XV w) (h0 : -9223372036854775808 ≤ n) (h1 : n ≤ 9223372036854775807) : Calls Tryz.prog 25 #[.int .i64 n] w (IsV (VaP.numF (Lib.itoa n, [49])) w) := by
  have O := fun (w' : World) (h : Below w.heap.size w w') => of_any n w' (hw.below h).xw h0 h1
  generalize Lib.itoa n = L at *
  refine enter env_ok Tryz.func25 rfl Tryz.results25 Tryz.ntmps25 [] [] [.int .i64 n] (by simp [SV.oks, SV.ok]) (Nat.le_of_ble_eq_true rfl) w _ 1000 ?_
  repeat' (first | ((with_reducible first | show wpS .. | show putD .. | show putW .. | show splitG .. | show wpQ .. | show wpD .. | show wpX .. | show expX .. | show stepX .. | show keepR .. | show wpY ..); conv => whnf) | ((with_reducible show RetN ..); refine retB fun β => ?_) | ((with_reducible show _ ∧ _); first | (refine ⟨fun h => absurd h (by first | omega | decide), fun _ => ?_⟩) | (refine ⟨fun _ => ?_, fun h => absurd h (by first | omega | decide)⟩) | (refine ⟨fun _ => ?_, fun _ => ?_⟩) | (apply And.intro; · kernel_rfl) | (apply And.intro; · (show inK _ _; unfold inK; omega)) | (apply And.intro; · (show (_ : Int) ≤ 9223372036854775807; (try simp only [lenS]); omega))) | ((with_reducible show AllBe ..); refine allBe fun βe => ?_; conv => whnf) | ((with_reducible show bothX ..); refine bothI ?_ ?_; conv => whnf) | (with_reducible exact trivial) | ((with_reducible show CallN ..); refine call_of env_ok rfl 1000 ?_) | ((with_reducible show XopN ..); refine xop_of env_ok rfl 1000 ?_) | ((with_reducible show CallX ..); first | (refine callX (.agg [.str L, .str [49]]) (by kernel_rfl) rfl (⟨trivial, trivial, trivial⟩) (fun β w hm => O w hm.below) ?_)) | ((with_reducible show OpX ..); first | fail) | ((with_reducible show ∃ _ : SV, _); first | fail) | ((with_reducible show ∃ _, _); first | fail))
  all_goals first | rfl | trace_state
end Go.Proofs.YtdkhkfdenlabaaaGreatDoor
namespace Go.Proofs.YtdkhkfdenlabaaaGreatDoor
open Go.RowKit
open Sym
attribute [local irreducible] Calls Sym.AggEq ExP.nd ExP.dig ExP.upd
/-- a power -/
def ExP.powN (x : ExP.Num) (k : Nat) : ExP.Num := ⟨x.m && decide (k % 2 = 1), x.n ^ k, x.d ^ k⟩
theorem ExP.pow_zero (x : ExP.Num) : ExP.powN x 0 = ExP.wholeN 1 := by simp [ExP.powN, ExP.wholeN]
structure RpT where
  i : Nat
  a : Option Addr
  c : Nat
  b : Option Addr
  e : Nat
end Go.Proofs.YtdkhkfdenlabaaaGreatDoor
namespace Go.Proofs.YtdkhkfdenlabaaaGreatDoor
open Go.RowKit
open Sym
attribute [local irreducible] Calls Sym.AggEq ExP.nd ExP.dig ExP.upd
structure PwT where
  A : Nat
  O : Nat
  m : Nat
  a : Option Addr
  c : Nat
  b : Option Addr
  e : Nat
structure PwI (z : Nat) (t : PwT) : Prop where
  eq : t.O * t.A ^ t.m = z
  a0 : 0 < t.A ∨ t.m = 0
  o0 : 0 < t.O
  na : ExP.nd 1000000000 t.A ≤ 1000
  no : ExP.nd 1000000000 t.O ≤ 34
  ha : t.a = none → t.c = 0
  hb : t.b = none → t.e = 0
  ca : ExP.nd 1000000000 t.A ≤ t.c
  cb : ExP.nd 1000000000 t.O ≤ t.e
  hm : t.m ≤ 1000
end Go.Proofs.YtdkhkfdenlabaaaGreatDoor
namespace Go.Proofs.YtdkhkfdenlabaaaGreatDoor
open Go.RowKit
open Sym
attribute [local irreducible] Calls Sym.AggEq ExP.nd ExP.dig ExP.upd
end Go.Proofs.YtdkhkfdenlabaaaGreatDoor
namespace Go.Proofs.YtdkhkfdenlabaaaGreatDoor
open Go.RowKit
open Sym
attribute [local irreducible] Calls Sym.AggEq ExP.nd ExP.dig ExP.upd ExP.writeF ExP.writeE
/-- what is known of a sum, product .. and of what is written of it -/
structure OpI (N : ExP.Num) (F : ExP.Fr) (E : Int) : Prop where
  d : 0 < N.d
  n1 : ExP.nd 10 N.n ≤ 1000000
  n2 : ExP.nd 10 N.d ≤ 1000000
  hF : F = ExP.writeF N
  hE : E = ExP.writeE N
structure LwT where
  a1 : Option Addr
  c1 : Nat
  a2 : Option Addr
  c2 : Nat
  b1 : Option Addr
  e1 : Nat
  b2 : Option Addr
  e2 : Nat
end Go.Proofs.YtdkhkfdenlabaaaGreatDoor
namespace Go.Proofs.YtdkhkfdenlabaaaGreatDoor
open Go.RowKit
open Sym
attribute [local irreducible] Calls Sym.AggEq ExP.nd ExP.dig ExP.upd ExP.writeF ExP.writeE
section
attribute [local semireducible] ExP.writeF ExP.writeE
theorem ExP.whole_write (p : Int) (h0 : -9223372036854775808 ≤ p) (h1 : p ≤ 9223372036854775807) : (Lib.itoa p, ([49] : List UInt8)) = ExP.writeF (ExP.wholeN p) ∧ 0 = ExP.writeE (ExP.wholeN p) := by
  unfold ExP.writeF ExP.writeE
  by_cases hp : p.natAbs = 0
  · have : p = 0 := by omega
    subst this
    simp [ExP.wholeN, Lib.itoa, Lib.decDigits_one]
  · have h2 : (ExP.wholeN p).n ≠ 0 := hp
    have hr1 : ExP.redN (ExP.wholeN p) = p.natAbs := by simp [ExP.redN, ExP.wholeN]
    have hr2 : ExP.redD (ExP.wholeN p) = 1 := by simp [ExP.redD, ExP.wholeN]
    have hl := dec_le p.natAbs (by omega)
    have e1 : Lib.decDigits 1 = [49] := by rw [Lib.decDigits_one (by omega)]; rfl
    have ho : ¬ ExP.overP (ExP.wholeN p) := by
      unfold ExP.overP
      rw [hr1, hr2, e1]
      simp; omega
    rw [if_neg h2, if_neg h2, if_neg ho, if_neg ho, hr1, hr2]
    refine ⟨?_, rfl⟩
    rw [e1]
    congr 1
    unfold ExP.signP Lib.itoa ExP.wholeN
    by_cases hn : p < 0
    · simp [hn]
    · have : p.toNat = p.natAbs := by omega
      simp [hn, this]
end
end Go.Proofs.YtdkhkfdenlabaaaGreatDoor
namespace Go.Proofs.YtdkhkfdenlabaaaGreatDoor
open Go.RowKit
open Sym
attribute [local irreducible] Calls Sym.AggEq ExP.nd ExP.dig ExP.upd ExP.writeF ExP.writeE
set_option maxRecDepth 100000 in
theorem rfault_any (c : Int) (w : World) : Calls Tryz.prog 18 #[.int .i64 c] w (IsV (VaP.faultV c) w) := by
  refine enter env_ok Tryz.func18 rfl Tryz.results18 Tryz.ntmps18 [] [] [.int .i64 c] (by simp [SV.oks, SV.ok]) (Nat.le_of_ble_eq_true rfl) w _ 1000 ?_
  repeat' (first | ((with_reducible first | show wpS .. | show putD .. | show putW .. | show splitG .. | show wpQ .. | show wpD .. | show wpX .. | show expX .. | show stepX .. | show keepR .. | show wpY ..); conv => whnf) | ((with_reducible show RetN ..); refine retB fun β => ?_) | ((with_reducible show _ ∧ _); first | (refine ⟨fun h => absurd h (by first | omega | decide), fun _ => ?_⟩) | (refine ⟨fun _ => ?_, fun h => absurd h (by first | omega | decide)⟩) | (refine ⟨fun _ => ?_, fun _ => ?_⟩) | (apply And.intro; · kernel_rfl) | (apply And.intro; · (show inK _ _; unfold inK; omega)) | (apply And.intro; · (show (_ : Int) ≤ 9223372036854775807; (try simp only [lenS]); omega))) | ((with_reducible show AllBe ..); refine allBe fun βe => ?_; conv => whnf) | ((with_reducible show bothX ..); refine bothI ?_ ?_; conv => whnf) | (with_reducible exact trivial) | ((with_reducible show CallN ..); refine call_of env_ok rfl 1000 ?_) | ((with_reducible show XopN ..); refine xop_of env_ok rfl 1000 ?_) | ((with_reducible show CallX ..); first | fail) | ((with_reducible show OpX ..); first | fail) | ((with_reducible show ∃ _ : SV, _); first | fail) | ((with_reducible show ∃ _, _); first | fail))
  all_goals rfl
set_option maxRecDepth 100000 in
theorem rbool_any (b : Bool) (w : World) : Calls Tryz.prog 24 #[.bool b] w (IsV (VaP.boolV b) w) := by
  refine enter env_ok Tryz.func24 rfl Tryz.results24 Tryz.ntmps24 [] [] [.bool b] (by simp [SV.oks, SV.ok]) (Nat.le_of_ble_eq_true rfl) w _ 1000 ?_
  repeat' (first | ((with_reducible first | show wpS .. | show putD .. | show putW .. | show splitG .. | show wpQ .. | show wpD .. | show wpX .. | show expX .. | show stepX .. | show keepR .. | show wpY ..); conv => whnf) | ((with_reducible show RetN ..); refine retB fun β => ?_) | ((with_reducible show _ ∧ _); first | (refine ⟨fun h => absurd h (by first | omega | decide), fun _ => ?_⟩) | (refine ⟨fun _ => ?_, fun h => absurd h (by first | omega | decide)⟩) | (refine ⟨fun _ => ?_, fun _ => ?_⟩) | (apply And.intro; · kernel_rfl) | (apply And.intro; · (show inK _ _; unfold inK; omega)) | (apply And.intro; · (show (_ : Int) ≤ 9223372036854775807; (try simp only [lenS]); omega))) | ((with_reducible show AllBe ..); refine allBe fun βe => ?_; conv => whnf) | ((with_reducible show bothX ..); refine bothI ?_ ?_; conv => whnf) | (with_reducible exact trivial) | ((with_reducible show CallN ..); refine call_of env_ok rfl 1000 ?_) | ((with_reducible show XopN ..); refine xop_of env_ok rfl 1000 ?_) | ((with_reducible show CallX ..); first | fail) | ((with_reducible show OpX ..); first | fail) | ((with_reducible show ∃ _ : SV, _); first | fail) | ((with_reducible show ∃ _, _); first | fail))
  all_goals rfl
set_option maxRecDepth 100000 in
theorem rtextv_any (s : List UInt8) (w : World) (hs : s.length ≤ 9223372036854775807) : Calls Tryz.prog 21 #[.string (bstr s)] w (IsV (VaP.textV s) w) := by
  have T := fun (w' : World) => rtexterr_any s w' hs
  have F := fun (w' : World) => rfault_any 2 w'
  unfold VaP.textV
  by_cases h : VaP.txtE s = 0
  · simp only [if_pos h]
    rw [h] at T
    refine enter env_ok Tryz.func21 rfl Tryz.results21 Tryz.ntmps21 [] [] [.str s] (by simp [SV.oks, SV.ok]) (Nat.le_of_ble_eq_true rfl) w _ 1000 ?_
    repeat' (first | ((with_reducible first | show wpS .. | show putD .. | show putW .. | show splitG .. | show wpQ .. | show wpD .. | show wpX .. | show expX .. | show stepX .. | show keepR .. | show wpY ..); conv => whnf) | ((with_reducible show RetN ..); refine retB fun β => ?_) | ((with_reducible show _ ∧ _); first | (refine ⟨fun h => absurd h (by first | omega | decide), fun _ => ?_⟩) | (refine ⟨fun _ => ?_, fun h => absurd h (by first | omega | decide)⟩) | (refine ⟨fun _ => ?_, fun _ => ?_⟩) | (apply And.intro; · kernel_rfl) | (apply And.intro; · (show inK _ _; unfold inK; omega)) | (apply And.intro; · (show (_ : Int) ≤ 9223372036854775807; (try simp only [lenS]); omega))) | ((with_reducible show AllBe ..); refine allBe fun βe => ?_; conv => whnf) | ((with_reducible show bothX ..); refine bothI ?_ ?_; conv => whnf) | (with_reducible exact trivial) | ((with_reducible show CallN ..); refine call_of env_ok rfl 1000 ?_) | ((with_reducible show XopN ..); refine xop_of env_ok rfl 1000 ?_) | ((with_reducible show CallX ..); first | (refine callX (.int .i64 0) (by kernel_rfl) rfl (trivial) (fun β w hm => T w) ?_)) | ((with_reducible show OpX ..); first | fail) | ((with_reducible show ∃ _ : SV, _); first | fail) | ((with_reducible show ∃ _, _); first | fail))
    all_goals first | (exfalso; omega) | rfl
  · simp only [if_neg h]
    generalize VaP.txtE s = E at *
    refine enter env_ok Tryz.func21 rfl Tryz.results21 Tryz.ntmps21 [] [] [.str s] (by simp [SV.oks, SV.ok]) (Nat.le_of_ble_eq_true rfl) w _ 1000 ?_
    repeat' (first | ((with_reducible first | show wpS .. | show putD .. | show putW .. | show splitG .. | show wpQ .. | show wpD .. | show wpX .. | show expX .. | show stepX .. | show keepR .. | show wpY ..); conv => whnf) | ((with_reducible show RetN ..); refine retB fun β => ?_) | ((with_reducible show _ ∧ _); first | (refine ⟨fun h => absurd h (by first | omega | decide), fun _ => ?_⟩) | (refine ⟨fun _ => ?_, fun h => absurd h (by first | omega | decide)⟩) | (refine ⟨fun _ => ?_, fun _ => ?_⟩) | (apply And.intro; · kernel_rfl) | (apply And.intro; · (show inK _ _; unfold inK; omega)) | (apply And.intro; · (show (_ : Int) ≤ 9223372036854775807; (try simp only [lenS]); omega))) | ((with_reducible show AllBe ..); refine allBe fun βe => ?_; conv => whnf) | ((with_reducible show bothX ..); refine bothI ?_ ?_; conv => whnf) | (with_reducible exact trivial) | ((with_reducible show CallN ..); refine call_of env_ok rfl 1000 ?_) | ((with_reducible show XopN ..); refine xop_of env_ok rfl 1000 ?_) | ((with_reducible show CallX ..); first | (refine callX (.int .i64 E) (by kernel_rfl) rfl (trivial) (fun β w hm => T w) ?_) | (refine callX (.agg [.int .i64 4, .str [], .str [], .str [], .lit false, .int .i64 2, .int .i64 0, .int .i64 0, .any (.slice none 0 0)]) (by kernel_rfl) rfl (⟨trivial, trivial, trivial, trivial, trivial, trivial, trivial, trivial, rfl, trivial⟩) (fun β w hm => F w) ?_)) | ((with_reducible show OpX ..); first | fail) | ((with_reducible show ∃ _ : SV, _); first | fail) | ((with_reducible show ∃ _, _); first | fail))
    all_goals first | (exfalso; omega) | rfl
/-- a number as the reference makes it -/
def VaP.rnumV (x : ExP.Num) : VaP.VT := if ExP.writeE x = 0 then VaP.numF (ExP.writeF x) else VaP.faultV 5
set_option maxRecDepth 100000 in
set_option maxHeartbeats 2000000 in
theorem rnumber_any (x : FrV) (w : World) (hw0 : 0 < w.heap.size) (hx : FrIn .i64 10 x w) (hd : 0 < x.d) (hxn : ExP.nd 10 x.n ≤ 1000000) (hxd : ExP.nd 10 x.d ≤ 1000000) : Calls Tryz.prog 68 #[x.val 10] w (IsV (VaP.rnumV x.num) w) := by
  have R := fun (w' : World) (h : Below w.heap.size w w') => rfrac_any x w' (Nat.lt_of_lt_of_le hw0 h.size) (hx.below h) hd hxn hxd
  have F := fun (w' : World) => rfault_any 5 w'
  clear hx
  have hV : VaP.rnumV x.num = if ExP.writeE x.num = 0 then VaP.numF (ExP.writeF x.num) else VaP.faultV 5 := rfl
  rw [hV]
  clear hV
  by_cases hE : ExP.writeE x.num = 0
  · rw [if_pos hE]
    rw [hE] at R
    clear hE
    obtain ⟨W, hW⟩ : ∃ W, ExP.writeF x.num = W := ⟨_, rfl⟩
    obtain ⟨W1, W2⟩ := W
    rw [hW] at R ⊢
    clear hW
    obtain ⟨m, n, d, a, c, b, e⟩ := x
    dsimp only [FrV.num, FrV.val] at *
    refine enter env_ok Tryz.func68 rfl Tryz.results68 Tryz.ntmps68 [] [] [.agg [.bool m, .any (.slice a (ExP.nd 10 n) c), .any (.slice b (ExP.nd 10 d) e)]] ⟨⟨trivial, rfl, rfl, trivial⟩, trivial⟩ (Nat.le_of_ble_eq_true rfl) w _ 1000 ?_
    repeat' (first | ((with_reducible first | show wpS .. | show putD .. | show putW .. | show splitG .. | show wpQ .. | show wpD .. | show wpX .. | show expX .. | show stepX .. | show keepR .. | show wpY ..); conv => whnf) | ((with_reducible show RetN ..); refine retB fun β => ?_) | ((with_reducible show _ ∧ _); first | (refine ⟨fun h => absurd h (by first | omega | decide), fun _ => ?_⟩) | (refine ⟨fun _ => ?_, fun h => absurd h (by first | omega | decide)⟩) | (refine ⟨fun _ => ?_, fun _ => ?_⟩) | (apply And.intro; · kernel_rfl) | (apply And.intro; · (show inK _ _; unfold inK; omega)) | (apply And.intro; · (show (_ : Int) ≤ 9223372036854775807; (try simp only [lenS]); omega))) | ((with_reducible show AllBe ..); refine allBe fun βe => ?_; conv => whnf) | ((with_reducible show bothX ..); refine bothI ?_ ?_; conv => whnf) | (with_reducible exact trivial) | ((with_reducible show CallN ..); refine call_of env_ok rfl 1000 ?_) | ((with_reducible show XopN ..); refine xop_of env_ok rfl 1000 ?_) | ((with_reducible show CallX ..); first | (refine callX (.tup [.agg [.str W1, .str W2], .int .i64 0]) (by kernel_rfl) rfl (⟨⟨trivial, trivial, trivial⟩, trivial, trivial⟩) (fun β w hm => R w hm.below) ?_)) | ((with_reducible show OpX ..); first | fail) | ((with_reducible show ∃ _ : SV, _); first | fail) | ((with_reducible show ∃ _, _); first | fail))
    all_goals first | (exfalso; omega) | rfl | trace_state
  · rw [if_neg hE]
    generalize ExP.writeE x.num = E at *
    obtain ⟨W, hW⟩ : ∃ W, ExP.writeF x.num = W := ⟨_, rfl⟩
    obtain ⟨W1, W2⟩ := W
    rw [hW] at R
    clear hW
    obtain ⟨m, n, d, a, c, b, e⟩ := x
    dsimp only [FrV.num, FrV.val] at *
    refine enter env_ok Tryz.func68 rfl Tryz.results68 Tryz.ntmps68 [] [] [.agg [.bool m, .any (.slice a (ExP.nd 10 n) c), .any (.slice b (ExP.nd 10 d) e)]] ⟨⟨trivial, rfl, rfl, trivial⟩, trivial⟩ (Nat.le_of_ble_eq_true rfl) w _ 1000 ?_
    repeat' (first | ((with_reducible first | show wpS .. | show putD .. | show putW .. | show splitG .. | show wpQ .. | show wpD .. | show wpX .. | show expX .. | show stepX .. | show keepR .. | show wpY ..); conv => whnf) | ((with_reducible show RetN ..); refine retB fun β => ?_) | ((with_reducible show _ ∧ _); first | (refine ⟨fun h => absurd h (by first | omega | decide), fun _ => ?_⟩) | (refine ⟨fun _ => ?_, fun h => absurd h (by first | omega | decide)⟩) | (refine ⟨fun _ => ?_, fun _ => ?_⟩) | (apply And.intro; · kernel_rfl) | (apply And.intro; · (show inK _ _; unfold inK; omega)) | (apply And.intro; · (show (_ : Int) ≤ 9223372036854775807; (try simp only [lenS]); omega))) | ((with_reducible show AllBe ..); refine allBe fun βe => ?_; conv => whnf) | ((with_reducible show bothX ..); refine bothI ?_ ?_; conv => whnf) | (with_reducible exact trivial) | ((with_reducible show CallN ..); refine call_of env_ok rfl 1000 ?_) | ((with_reducible show XopN ..); refine xop_of env_ok rfl 1000 ?_) | ((with_reducible show CallX ..); first | (refine callX (.tup [.agg [.str W1, .str W2], .int .i64 E]) (by kernel_rfl) rfl (⟨⟨trivial, trivial, trivial⟩, trivial, trivial⟩) (fun β w hm => R w hm.below) ?_) | (refine callX (.agg [.int .i64 4, .str [], .str [], .str [], .lit false, .int .i64 5, .int .i64 0, .int .i64 0, .any (.slice none 0 0)]) (by kernel_rfl) rfl (⟨trivial, trivial, trivial, trivial, trivial, trivial, trivial, trivial, rfl, trivial⟩) (fun β w hm => F w) ?_)) | ((with_reducible show OpX ..); first | fail) | ((with_reducible show ∃ _ : SV, _); first | fail) | ((with_reducible show ∃ _, _); first | fail))
    all_goals first | (exfalso; omega) | rfl | trace_state
set_option maxRecDepth 100000 in
set_option maxHeartbeats 2000000 in
theorem rint_any (n : Int) (w : World) (hw0 : 0 < w.heap.size) (h0 : -9223372036854775808 ≤ n) (h1 : n ≤ 9223372036854775807) : Calls Tryz.prog 26 #[.int .i64 n] w (IsV (VaP.numF (Lib.itoa n, [49])) w) := by
  have W := fun (w' : World) (h : Below w.heap.size w w') => whole_any n w' (Nat.lt_of_lt_of_le hw0 h.size) h0 h1
  have N := fun (x : FrV) (w' : World) (h : Below w.heap.size w w') => rnumber_any x w' (Nat.lt_of_lt_of_le hw0 h.size)
  obtain ⟨e1, e2⟩ := ExP.whole_write n h0 h1
  have hV : VaP.rnumV (ExP.wholeN n) = VaP.numF (Lib.itoa n, [49]) := by
    unfold VaP.rnumV
    rw [if_pos e2.symm, ← e1]
  have hn : ExP.nd 10 n.natAbs ≤ 1000000 := Nat.le_trans (ExP.nd_le (n := 20) (by omega) (by omega)) (by omega)
  have h1' : ExP.nd 10 1 ≤ 1000000 := by rw [ExP.nd_one (by omega)]; omega
  clear e1 e2
  unfold ExP.wholeN at *
  have N1 := fun a1 c1 a2 c2 => N ⟨decide (n < 0), n.natAbs, 1, a1, c1, a2, c2⟩
  clear N
  dsimp only [FrV.num, FrV.val] at *
  rw [hV] at N1
  clear hV
  generalize decide (n < 0) = sg at *
  generalize n.natAbs = N at *
  generalize Lib.itoa n = L at *
  refine enter env_ok Tryz.func26 rfl Tryz.results26 Tryz.ntmps26 [] [] [.int .i64 n] (by simp [SV.oks, SV.ok]) (Nat.le_of_ble_eq_true rfl) w _ 1000 ?_
  repeat' (first | ((with_reducible first | show wpS .. | show putD .. | show putW .. | show splitG .. | show wpQ .. | show wpD .. | show wpX .. | show expX .. | show stepX .. | show keepR .. | show wpY ..); conv => whnf) | ((with_reducible show RetN ..); refine retB fun β => ?_) | ((with_reducible show _ ∧ _); first | (refine ⟨fun h => absurd h (by first | omega | decide), fun _ => ?_⟩) | (refine ⟨fun _ => ?_, fun h => absurd h (by first | omega | decide)⟩) | (refine ⟨fun _ => ?_, fun _ => ?_⟩) | (apply And.intro; · kernel_rfl) | (apply And.intro; · (show inK _ _; unfold inK; omega)) | (apply And.intro; · (show (_ : Int) ≤ 9223372036854775807; (try simp only [lenS]); omega))) | ((with_reducible show AllBe ..); refine allBe fun βe => ?_; conv => whnf) | ((with_reducible show bothX ..); refine bothI ?_ ?_; conv => whnf) | (with_reducible exact trivial) | ((with_reducible show CallN ..); refine call_of env_ok rfl 1000 ?_) | ((with_reducible show XopN ..); refine xop_of env_ok rfl 1000 ?_) | ((with_reducible show CallX ..); first | (refine callFr .i64 10 ⟨sg, N, 1⟩ hw0 (by kernel_rfl) rfl (fun β w' hm => W w' hm.below) (fun a1 c1 a2 c2 hc => ?_)) | (refine callX (.agg [.int .i64 1, .str L, .str [49], .str [], .lit false, .int .i64 0, .int .i64 0, .int .i64 0, .any (.slice none 0 0)]) (by kernel_rfl) rfl (⟨trivial, trivial, trivial, trivial, trivial, trivial, trivial, trivial, rfl, trivial⟩) (fun β w hm => N1 _ _ _ _ w hm.below (FrIn.of (hm.slF 1 rfl) (hm.slF 2 rfl) hc) (by show 0 < 1; omega) hn h1') ?_)) | ((with_reducible show OpX ..); first | fail) | ((with_reducible show ∃ _ : SV, _); first | fail) | ((with_reducible show ∃ _, _); first | fail))
  all_goals first | rfl | trace_state
/-- a value, or its error -/
def VaP.soundV (t : VaP.VT) : VaP.VT := if VaP.vErr t = 0 then t else VaP.faultV 2
set_option maxRecDepth 100000 in
theorem sound_any (t : VaP.VT) (w : World) (hw : XV w) (hr : XR w) (ht : VIn w t none 0) (h0 : t.items = []) : Calls Tryz.prog 17 #[vtV t none 0] w (IsV (VaP.soundV t) w) := by
  have E := fun (w' : World) (h : Below w.heap.size w w') => rverr_any t none 0 w' (hw.below h) (hr.below h) (ht.lift h)
  have F := fun (w' : World) => rfault_any 2 w'
  clear ht
  unfold VaP.soundV
  generalize VaP.vErr t = e at *
  obtain ⟨k, ⟨n1, n2⟩, tx, on, cd, rw', cl, its⟩ := t
  dsimp only at h0
  subst h0
  unfold vtV at *
  dsimp only at *
  refine enter env_ok Tryz.func17 rfl Tryz.results17 Tryz.ntmps17 [] [] [.agg [.int .i64 k, .str n1, .str n2, .str tx, .bool on, .int .i64 cd, .int .i64 rw', .int .i64 cl, .any (.slice none 0 0)]] ⟨⟨trivial, trivial, trivial, trivial, trivial, trivial, trivial, trivial, rfl, trivial⟩, trivial⟩ (Nat.le_of_ble_eq_true rfl) w _ 1000 ?_
  repeat' (first | ((with_reducible first | show wpS .. | show putD .. | show putW .. | show splitG .. | show wpQ .. | show wpD .. | show wpX .. | show expX .. | show stepX .. | show keepR .. | show wpY ..); conv => whnf) | ((with_reducible show RetN ..); refine retB fun β => ?_) | ((with_reducible show _ ∧ _); first | (refine ⟨fun h => absurd h (by first | omega | decide), fun _ => ?_⟩) | (refine ⟨fun _ => ?_, fun h => absurd h (by first | omega | decide)⟩) | (refine ⟨fun _ => ?_, fun _ => ?_⟩) | (apply And.intro; · kernel_rfl) | (apply And.intro; · (show inK _ _; unfold inK; omega)) | (apply And.intro; · (show (_ : Int) ≤ 9223372036854775807; (try simp only [lenS]); omega))) | ((with_reducible show AllBe ..); refine allBe fun βe => ?_; conv => whnf) | ((with_reducible show bothX ..); refine bothI ?_ ?_; conv => whnf) | (with_reducible exact trivial) | ((with_reducible show CallN ..); refine call_of env_ok rfl 1000 ?_) | ((with_reducible show XopN ..); refine xop_of env_ok rfl 1000 ?_) | ((with_reducible show CallX ..); first | (refine callX (.int .i64 e) (by kernel_rfl) rfl (trivial) (fun β w hm => E w hm.below) ?_) | (refine callX (.agg [.int .i64 4, .str [], .str [], .str [], .lit false, .int .i64 2, .int .i64 0, .int .i64 0, .any (.slice none 0 0)]) (by kernel_rfl) rfl (⟨trivial, trivial, trivial, trivial, trivial, trivial, trivial, trivial, rfl, trivial⟩) (fun β w hm => F w) ?_)) | ((with_reducible show OpX ..); first | fail) | ((with_reducible show ∃ _ : SV, _); first | fail) | ((with_reducible show ∃ _, _); first | fail))
  all_goals first | (rw [if_pos (by omega)]; rfl) | (rw [if_neg (by omega)]; rfl) | trace_state
end Go.Proofs.YtdkhkfdenlabaaaGreatDoor
namespace Go.Proofs.YtdkhkfdenlabaaaGreatDoor
open Go.RowKit
open Sym
attribute [local irreducible] Calls Sym.AggEq ExP.nd ExP.dig ExP.upd ExP.writeF ExP.writeE VaP.ftext
theorem quote_any (s : List UInt8) (w : World) (h : s.head? ≠ some 39) : Calls Tryz.prog 54 #[.string (bstr s), .string (bstr [39])] w fun e w' => e = .returned (.tuple #[.string (bstr s), .bool false]) ∧ Below w.heap.size w w' := by
  refine (Tryz.strings_CutPrefix (bstr s) (bstr [39]) w).mono ?_
  rintro e w' ⟨h', rfl⟩
  refine ⟨?_, Below.refl _ _⟩
  rw [h', show (bstr s).data.toList = s from rfl, show (bstr [39]).data.toList = [39] from rfl]
  have : Lib.hasPrefix s [39] = false := by
    unfold Lib.hasPrefix
    cases s with
    | nil => rfl
    | cons d r =>
      have : ¬ (39 : UInt8) = d := fun e => h (by rw [← e]; rfl)
      simp [List.isPrefixOf, this]
  unfold Lib.trimPrefix
  rw [this, if_neg Bool.false_ne_true]
  rfl
def faultS : List SV := [.str (VaP.ftext 0), .str (VaP.ftext 1), .str (VaP.ftext 2), .str (VaP.ftext 3), .str (VaP.ftext 4), .str (VaP.ftext 5), .str (VaP.ftext 6), .str (VaP.ftext 7), .str (VaP.ftext 8)]
theorem faultS_get (i : Nat) (h : i < 9) : faultS[i]? = some (.str (VaP.ftext i)) := by
  rcases i with _ | _ | _ | _ | _ | _ | _ | _ | _ | i
  all_goals first | (exfalso; omega) | rfl
theorem faultS_oks (n : Nat) : SV.oks n faultS := ⟨trivial, trivial, trivial, trivial, trivial, trivial, trivial, trivial, trivial, trivial⟩
theorem faultS_cell (w : World) (hw : XV w) : ∀ w', Below w.heap.size w w' → ∀ (β : Nat → Nat) (j : Nat) (v : Value), (SV.dens β faultS)[j]? = some v → w'.cell? ((⟨0, 0, none⟩ : Addr).add j) = some v := fun w' hb β j v hv => by
  have hj : j < 9 := by
    have := (List.getElem?_eq_some_iff.1 hv).1
    rwa [SV.dens_len] at this
  have h := (hw.below hb).flt j hj
  rw [SV.dens_get, faultS_get j hj] at hv
  cases hv
  have e : (⟨0, 0, none⟩ : Addr).add j = ⟨0, j, none⟩ := by simp [Addr.add]; omega
  rw [e]; exact h
abbrev readF : List SV := [.fn 56 [], .fn 57 [], .fn 58 [], .fn 59 [], .fn 60 []]
theorem readF_cells : ∀ β, ∀ u ∈ SV.dens β readF, u.cells = #[u] := by
  intro β u hu
  simp only [readF, SV.dens, SV.den, List.mem_cons, List.not_mem_nil, or_false] at hu
  rcases hu with rfl | rfl | rfl | rfl | rfl <;> rfl
set_option maxRecDepth 100000 in
set_option maxHeartbeats 4000000 in
theorem enter_num (s L F1 F2 : List UInt8) (w : World) (hw : XV w) (hs : s ≠ []) (hT : VaP.txtE s = 0) (hl : s.length ≤ 9223372036854775807) (hq : s.head? ≠ some 39)
    (hL : ∀ w', Below w.heap.size w w' → Calls Tryz.prog 55 #[.string (bstr s)] w' fun e w'' => e = .returned (.string (bstr L)) ∧ Below w'.heap.size w' w'')
    (hL1 : L ≠ [116, 114, 117, 101]) (hL2 : L ≠ [102, 97, 108, 115, 101]) (hf : ∀ i, 1 ≤ i → i < 9 → s ≠ VaP.ftext i)
    (hN : ∀ w', Below w.heap.size w w' → Calls Tryz.prog 56 #[.string (bstr s)] w' fun e w'' => e = .returned (.tuple #[frV (F1, F2), .bool true]) ∧ Below w'.heap.size w' w'')
    (hV : ∀ w', Below w.heap.size w w' → Calls Tryz.prog 19 #[frV (F1, F2)] w' (IsV (VaP.numF (F1, F2)) w')) :
    Calls Tryz.prog 11 #[.string (bstr s)] w (IsV (VaP.numF (F1, F2)) w) := by
  have T := fun (w' : World) (h : Below w.heap.size w w') => vtext_any s w' (hw.below h) hl
  rw [hT] at T
  have Q := fun (w' : World) => quote_any s w' hq
  have hfc := faultS_cell w hw
  have hfg := faultS_get
  refine enter env_ok Tryz.func11 rfl Tryz.results11 Tryz.ntmps11 [] [] [.str s] (by simp [SV.oks, SV.ok]) (Nat.le_of_ble_eq_true rfl) w _ 1000 ?_
  repeat' (first | ((with_reducible first | show wpS .. | show putD .. | show putW .. | show splitG .. | show wpQ .. | show wpD .. | show wpX .. | show expX .. | show stepX .. | show keepR .. | show wpY ..); conv => whnf) | ((with_reducible show RetN ..); refine retB fun β => ?_) | ((with_reducible show _ ∧ _); first | (refine ⟨fun h => absurd h (by first | omega | decide), fun _ => ?_⟩) | (refine ⟨fun _ => ?_, fun h => absurd h (by first | omega | decide)⟩) | (refine ⟨fun _ => ?_, fun _ => ?_⟩) | (apply And.intro; · kernel_rfl) | (apply And.intro; · (show inK _ _; unfold inK; omega)) | (apply And.intro; · (show (_ : Int) ≤ 9223372036854775807; (try simp only [lenS]); omega))) | ((with_reducible show AllBe ..); refine allBe fun βe => ?_; conv => whnf) | ((with_reducible show bothX ..); refine bothI ?_ ?_; conv => whnf) | (with_reducible exact trivial) | ((with_reducible show CallN ..); refine call_of env_ok rfl 1000 ?_) | ((with_reducible show XopN ..); refine xop_of env_ok rfl 1000 ?_) | ((with_reducible show CallX ..); first | (refine callX (.int .i64 0) (by kernel_rfl) rfl (trivial) (fun β w hm => T w hm.below) ?_) | (refine callX (.tup [.str s, .lit false]) (by kernel_rfl) rfl (⟨trivial, trivial, trivial⟩) (fun β w hm => Q w) ?_) | (refine callX (.str L) (by kernel_rfl) rfl (trivial) (fun β w hm => hL w hm.below) ?_)) | ((with_reducible show OpX ..); first | fail) | ((with_reducible show ∃ _ : SV, _); first | (refine ⟨.agg faultS, ?ok, x_loadAgg (vs := faultS) (fun w => Tryz.isAgg81 w) (fun w => Tryz.sizeOf81 w) hfc, ?_⟩; (case ok => exact fun _ _ => faultS_oks _))) | ((with_reducible show ∃ _, _); first | fail))
  all_goals first | (exfalso; contradiction) | skip
  refine loop env_ok rfl (T := {i : Nat // i ≤ 9}) (fun t => ⟨[(0, .str s), (2, .ptr 0 0), (38, .agg faultS), (39, .int .i64 (t.1 : Nat))], [(0, true, .cells 28 [.int .i64 0, .str [], .str [], .str [], .lit false, .int .i64 0, .int .i64 0, .int .i64 0, .any (.slice none 0 0)])], 1, 69⟩) (fun t => 9 - t.1) ⟨0, Nat.zero_le _⟩ 1000 [] [] (fun _ => Nat.zero_le _) (by ((with_reducible show wk _ _); repeat' (first | exact trivial | exact eqSV_refl _ | (refine eqI ?_) | (refine eqS ?_) | (with_reducible exact rfl) | apply And.intro | exact Nat.zero_lt_one | exact Nat.le_of_ble_eq_true rfl | (with_reducible assumption) | ((show (_ : Int) = _); (try dsimp only); omega) | ((show eqSV _ _); simp [eqSV, isB, bval, *]; done) | rfl))) (fun t I hI => ?_)
  obtain ⟨i, hi⟩ := t
  dsimp only
  by_cases hlt : i < 9
  · have hg := hfg i hlt
    have hne := hf i
    generalize VaP.ftext i = X at *
    repeat' (first | ((with_reducible first | show wpS .. | show putD .. | show putW .. | show splitG .. | show wpQ .. | show wpD .. | show wpX .. | show expX .. | show stepX .. | show keepR .. | show wpY ..); conv => whnf) | ((with_reducible show RetN ..); refine retB fun β => ?_) | ((with_reducible show _ ∧ _); first | (refine ⟨fun h => absurd h (by first | omega | decide), fun _ => ?_⟩) | (refine ⟨fun _ => ?_, fun h => absurd h (by first | omega | decide)⟩) | (refine ⟨fun _ => ?_, fun _ => ?_⟩) | (apply And.intro; · kernel_rfl) | (apply And.intro; · (show inK _ _; unfold inK; omega)) | (apply And.intro; · (show (_ : Int) ≤ 9223372036854775807; (try simp only [lenS]); omega))) | ((with_reducible show AllBe ..); refine allBe fun βe => ?_; conv => whnf) | ((with_reducible show bothX ..); refine bothI ?_ ?_; conv => whnf) | (with_reducible exact trivial) | ((with_reducible show CallN ..); refine call_of env_ok rfl 1000 ?_) | ((with_reducible show XopN ..); refine xop_of env_ok rfl 1000 ?_) | ((with_reducible show CallX ..); first | fail) | ((with_reducible show OpX ..); first | fail) | ((with_reducible show ∃ _ : SV, _); first | (refine ⟨.str X, ?ok, x_indexAgg (j := i) Tryz.underlying81 (fun w => Tryz.sizeOf9 w) (fun w => Tryz.isAgg9 w) hlt hg, ?_⟩; (case ok => exact fun _ _ => trivial))) | ((with_reducible show ∃ _, _); first | fail))
    all_goals first | (exfalso; omega) | (exfalso; exact hne (by omega) hlt (by assumption)) | (refine hI _ ⟨i + 1, by omega⟩ (by dsimp only; omega) (by ((with_reducible show wk _ _); repeat' (first | exact trivial | exact eqSV_refl _ | (refine eqI ?_) | (refine eqS ?_) | (with_reducible exact rfl) | apply And.intro | exact Nat.zero_lt_one | exact Nat.le_of_ble_eq_true rfl | (with_reducible assumption) | ((show (_ : Int) = _); (try dsimp only); omega) | ((show eqSV _ _); simp [eqSV, isB, bval, *]; done) | rfl))); done) | trace_state
  · repeat' (first | ((with_reducible first | show wpS .. | show putD .. | show putW .. | show splitG .. | show wpQ .. | show wpD .. | show wpX .. | show expX .. | show stepX .. | show keepR .. | show wpY ..); conv => whnf) | ((with_reducible show RetN ..); refine retB fun β => ?_) | ((with_reducible show _ ∧ _); first | (refine ⟨fun h => absurd h (by first | omega | decide), fun _ => ?_⟩) | (refine ⟨fun _ => ?_, fun h => absurd h (by first | omega | decide)⟩) | (refine ⟨fun _ => ?_, fun _ => ?_⟩) | (apply And.intro; · kernel_rfl) | (apply And.intro; · (show inK _ _; unfold inK; omega)) | (apply And.intro; · (show (_ : Int) ≤ 9223372036854775807; (try simp only [lenS]); omega))) | ((with_reducible show AllBe ..); refine allBe fun βe => ?_; conv => whnf) | ((with_reducible show bothX ..); refine bothI ?_ ?_; conv => whnf) | (with_reducible exact trivial) | ((with_reducible show CallN ..); refine call_of env_ok rfl 1000 ?_) | ((with_reducible show XopN ..); refine xop_of env_ok rfl 1000 ?_) | ((with_reducible show CallX ..); first | fail) | ((with_reducible show OpX ..); first | fail) | ((with_reducible show ∃ _ : SV, _); first | (refine ⟨.agg readF, ?ok, x_buildArr rfl Tryz.underlying83 (fun w => Tryz.sizeOf82 w) (fun w => Tryz.zeroValue83 w) rfl readF_cells, ?_⟩; (case ok => exact fun _ h => h))) | ((with_reducible show ∃ _, _); first | fail))
    all_goals first | (exfalso; omega) | skip
    refine loop env_ok rfl (T := Unit) (fun t => ⟨[(0, .str s), (2, .ptr 0 0), (53, .agg readF), (54, .int .i64 0)], [(0, true, .cells 28 [.int .i64 0, .str [], .str [], .str [], .lit false, .int .i64 0, .int .i64 0, .int .i64 0, .any (.slice none 0 0)])], 1, 69⟩) (fun t => 0) () 1000 [] [] (fun _ => Nat.zero_le _) (by ((with_reducible show wk _ _); repeat' (first | exact trivial | exact eqSV_refl _ | (refine eqI ?_) | (refine eqS ?_) | (with_reducible exact rfl) | apply And.intro | exact Nat.zero_lt_one | exact Nat.le_of_ble_eq_true rfl | (with_reducible assumption) | ((show (_ : Int) = _); (try dsimp only); omega) | ((show eqSV _ _); simp [eqSV, isB, bval, *]; done) | rfl))) (fun t I hI => ?_)
    repeat' (first | ((with_reducible first | show wpS .. | show putD .. | show putW .. | show splitG .. | show wpQ .. | show wpD .. | show wpX .. | show expX .. | show stepX .. | show keepR .. | show wpY ..); conv => whnf) | ((with_reducible show RetN ..); refine retB fun β => ?_) | ((with_reducible show _ ∧ _); first | (refine ⟨fun h => absurd h (by first | omega | decide), fun _ => ?_⟩) | (refine ⟨fun _ => ?_, fun h => absurd h (by first | omega | decide)⟩) | (refine ⟨fun _ => ?_, fun _ => ?_⟩) | (apply And.intro; · kernel_rfl) | (apply And.intro; · (show inK _ _; unfold inK; omega)) | (apply And.intro; · (show (_ : Int) ≤ 9223372036854775807; (try simp only [lenS]); omega))) | ((with_reducible show AllBe ..); refine allBe fun βe => ?_; conv => whnf) | ((with_reducible show bothX ..); refine bothI ?_ ?_; conv => whnf) | (with_reducible exact trivial) | ((with_reducible show CallN ..); refine call_of env_ok rfl 1000 ?_) | ((with_reducible show XopN ..); refine xop_of env_ok rfl 1000 ?_) | ((with_reducible show CallX ..); first | (refine callX (.tup [.agg [.str F1, .str F2], .lit true]) (by kernel_rfl) rfl (⟨⟨trivial, trivial, trivial⟩, trivial, trivial⟩) (fun β w hm => hN w hm.below) ?_) | (refine callX (.agg [.int .i64 1, .str F1, .str F2, .str [], .lit false, .int .i64 0, .int .i64 0, .int .i64 0, .any (.slice none 0 0)]) (by kernel_rfl) rfl (⟨trivial, trivial, trivial, trivial, trivial, trivial, trivial, trivial, rfl, trivial⟩) (fun β w hm => hV w hm.below) ?_)) | ((with_reducible show OpX ..); first | fail) | ((with_reducible show ∃ _ : SV, _); first | (refine ⟨.fn 56 [], ?ok, x_indexAgg (j := 0) Tryz.underlying83 (fun w => Tryz.sizeOf82 w) (fun w => Tryz.isAgg82 w) (by omega) rfl, ?_⟩; (case ok => exact fun _ _ => trivial))) | ((with_reducible show ∃ _, _); first | fail))
    all_goals first | (exfalso; omega) | rfl | trace_state
end Go.Proofs.YtdkhkfdenlabaaaGreatDoor
namespace Go.Proofs.YtdkhkfdenlabaaaGreatDoor
open Go.RowKit
open Sym
attribute [local irreducible] Calls Sym.AggEq ExP.nd ExP.dig ExP.upd ExP.writeF ExP.writeE
end Go.Proofs.YtdkhkfdenlabaaaGreatDoor
namespace Go.Proofs.YtdkhkfdenlabaaaGreatDoor
open Go.RowKit
open Sym
attribute [local irreducible] Calls Sym.AggEq ExP.nd ExP.dig ExP.upd ExP.writeF ExP.writeE
end Go.Proofs.YtdkhkfdenlabaaaGreatDoor
