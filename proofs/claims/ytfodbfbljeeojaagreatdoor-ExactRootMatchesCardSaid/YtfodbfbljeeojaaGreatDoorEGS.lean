/- Fractions of the reference: sums, products, signs; equality of fractions. The law of operations: its helpers, and the law itself. A walk that reckons: numbers kept free ahead of a drawn region; one's own cells told of another number. -/
import Derived.Test.YtfodbfbljeeojaaGreatDoorEGR
import Derived.Test.YtfodbfbljeeojaaGreatDoorEGM
set_option linter.unusedSimpArgs false
set_option linter.unusedVariables false
namespace Go.Proofs.YtfodbfbljeeojaaGreatDoor
open Go.RowKit
open Sym
attribute [local irreducible] Calls Sym.AggEq ExP.nd ExP.dig ExP.upd
set_option maxRecDepth 100000 in
set_option maxHeartbeats 4000000 in
theorem radd_any (x y : FrV) (w : World) (hw0 : 0 < w.heap.size) (hx : FrIn .i64 10 x w) (hy : FrIn .i64 10 y w)
    (hxn : ExP.nd 10 x.n ≤ 1000000) (hxd : ExP.nd 10 x.d ≤ 1000000) (hyn : ExP.nd 10 y.n ≤ 1000000) (hyd : ExP.nd 10 y.d ≤ 1000000) :
    Calls Tryz.prog 23 #[x.val 10, y.val 10] w (FrOut .i64 10 (ExP.sumN x.num y.num) w) := by
  obtain ⟨xm, xn, xd, xa, xc, xb, xe⟩ := x
  obtain ⟨ym, yn, yd, ya, yc, yb, ye⟩ := y
  obtain ⟨hx1, hx2, ⟨hx3, hx4, hx5, hx6⟩⟩ := hx
  obtain ⟨hy1, hy2, ⟨hy3, hy4, hy5, hy6⟩⟩ := hy
  dsimp only [FrV.num, FrV.val] at *
  have T1 := fun (w' : World) (h : Below w.heap.size w w') => rtimes_any xa yb xc ye xn yd w' (by omega) (by omega) (hx1.below h) (hy2.below h)
  have T2 := fun (w' : World) (h : Below w.heap.size w w') => rtimes_any ya xb yc xe yn xd w' (by omega) (by omega) (hy1.below h) (hx2.below h)
  have T3 := fun (w' : World) (h : Below w.heap.size w w') => rtimes_any xb yb xe ye xd yd w' (by omega) (by omega) (hx2.below h) (hy2.below h)
  have m1 := ExP.nd_mul (b := 10) (x := xn) (y := yd) (by omega)
  have m2 := ExP.nd_mul (b := 10) (x := yn) (y := xd) (by omega)
  have hge := ExP.cmpS_ge (x := xn * yd) (y := yn * xd)
  by_cases hm : xm = ym
  · have hS : ExP.sumN ⟨xm, xn, xd⟩ ⟨ym, yn, yd⟩ = ⟨xm, xn * yd + yn * xd, xd * yd⟩ := by simp [ExP.sumN, hm]
    rw [hS]
    obtain rfl : xm = ym := hm
    refine enter env_ok Tryz.func23 rfl Tryz.results23 Tryz.ntmps23 [] [200001, 100003, 100005, 100007] [.agg [.bool xm, .any (.slice xa (ExP.nd 10 xn) xc), .any (.slice xb (ExP.nd 10 xd) xe)], .agg [.bool xm, .any (.slice ya (ExP.nd 10 yn) yc), .any (.slice yb (ExP.nd 10 yd) ye)]] ⟨⟨trivial, rfl, rfl, trivial⟩, ⟨trivial, rfl, rfl, trivial⟩, trivial⟩ (Nat.le_of_ble_eq_true rfl) w _ 1000 ?_
    repeat' (first | ((with_reducible first | show wpS _ _ _ _ | show putD _ _ _ _ | show putW _ _ _ _ | show splitG _ _ _ | show wpQ _ _ _ _ _ _ | show wpD _ _ _ _ _ _ _ | show wpX _ _ _ _ _ _ _ | show expX _ _ _ _ _ _ | show stepX _ _ _ _ | show keepR _ _ _ | show wpY _ _ _ _); conv => whnf) | ((with_reducible show RetN _ _ _); refine retB fun β => ?_) | ((with_reducible show _ ∧ _); first | (apply And.intro; (· intro h; exfalso; first | omega | (revert h; decide)); intro _) | (apply And.intro; rotate_left; (· intro h; exfalso; first | omega | (revert h; decide)); intro _) | (refine ⟨fun _ => ?_, fun _ => ?_⟩) | (apply And.intro; · kernel_rfl) | (apply And.intro; · (show inK _ _; unfold inK; omega)) | (apply And.intro; · (show (_ : Int) ≤ 9223372036854775807; (try simp only [List.length_append, List.length_drop, List.length_take, List.length_cons, List.length_nil]); omega))) | ((with_reducible show AllBe _); refine allBe fun βe => ?_; conv => whnf) | ((with_reducible show bothX _ _); refine bothI ?_ ?_; conv => whnf) | (with_reducible exact trivial) | ((with_reducible show CallN _ _ _ _ _ _ _ _); refine call_of env_ok rfl 1000 ?_) | ((with_reducible show XopN _ _ _ _ _ _); refine xop_of env_ok rfl 1000 ?_) | ((with_reducible show CallX _ _ _ _ _ _); first | (refine callNat .i64 10 (xn * yd) hw0 (by kernel_rfl) rfl (fun β w' hm => T1 w' hm.below) (fun a1 c1 h1 h2 h3 => ?_)) | (refine callNat .i64 10 (yn * xd) hw0 (by kernel_rfl) rfl (fun β w' hm => T2 w' hm.below) (fun a2 c2 h4 h5 h6 => ?_)) | (refine callNat .i64 10 (xd * yd) hw0 (by kernel_rfl) rfl (fun β w' hm => T3 w' hm.below) (fun a3 c3 h7 h8 h9 => ?_)) | (refine callNat .i64 10 (xn * yd + yn * xd) hw0 (by kernel_rfl) rfl (fun β w' hm => rplus_any a1 a2 c1 c2 _ _ w' (by omega) (by omega) (by first | exact hm.slF 3 rfl | exact hm.slF 4 rfl) (by first | exact hm.slF 3 rfl | exact hm.slF 4 rfl)) (fun a4 c4 h10 h11 h12 => ?_))) | ((with_reducible show OpX _ _ _ _); first | fail) | ((with_reducible show ∃ _ : SV, _); first | (refine ⟨_, ?ok, x_eqBB xm xm true (fun _ => rfl) (fun _ => rfl) (by simp) Tryz.underlying4, ?_⟩; (case ok => exact fun _ _ => trivial))) | ((with_reducible show ∃ _, _); first | fail))
    all_goals first | (exfalso; simp_all; done) | (exfalso; omega) | skip
    all_goals refine ret fun β w' hm => ?_
    all_goals exact ⟨⟨_, _, _, a4, c4, a3, c3⟩, rfl, rfl, ⟨h10, h7, h11, h8⟩, Ls2 (by first | exact hm.slF 2 rfl | exact hm.slF 3 rfl | exact hm.slF 4 rfl | exact hm.slF 5 rfl | exact hm.slF 6 rfl | exact hm.slF 7 rfl | exact hm.slF 8 rfl | exact hm.slF 9 rfl) (by first | exact hm.freshF 2 rfl rfl | exact hm.freshF 3 rfl rfl | exact hm.freshF 4 rfl rfl | exact hm.freshF 5 rfl rfl | exact hm.freshF 6 rfl rfl | exact hm.freshF 7 rfl rfl | exact hm.freshF 8 rfl rfl | exact hm.freshF 9 rfl rfl) (by first | exact hm.slF 2 rfl | exact hm.slF 3 rfl | exact hm.slF 4 rfl | exact hm.slF 5 rfl | exact hm.slF 6 rfl | exact hm.slF 7 rfl | exact hm.slF 8 rfl | exact hm.slF 9 rfl) (by first | exact hm.freshF 2 rfl rfl | exact hm.freshF 3 rfl rfl | exact hm.freshF 4 rfl rfl | exact hm.freshF 5 rfl rfl | exact hm.freshF 6 rfl rfl | exact hm.freshF 7 rfl rfl | exact hm.freshF 8 rfl rfl | exact hm.freshF 9 rfl rfl), hm.below⟩
  · by_cases hle : yn * xd ≤ xn * yd
    · have hS : ExP.sumN ⟨xm, xn, xd⟩ ⟨ym, yn, yd⟩ = ⟨xm, xn * yd - yn * xd, xd * yd⟩ := by simp [ExP.sumN, hm, hle]
      rw [hS]
      have hc := hge.2 hle
      refine enter env_ok Tryz.func23 rfl Tryz.results23 Tryz.ntmps23 [] [200001, 100003, 100005, 100007] [.agg [.bool xm, .any (.slice xa (ExP.nd 10 xn) xc), .any (.slice xb (ExP.nd 10 xd) xe)], .agg [.bool ym, .any (.slice ya (ExP.nd 10 yn) yc), .any (.slice yb (ExP.nd 10 yd) ye)]] ⟨⟨trivial, rfl, rfl, trivial⟩, ⟨trivial, rfl, rfl, trivial⟩, trivial⟩ (Nat.le_of_ble_eq_true rfl) w _ 1000 ?_
      repeat' (first | ((with_reducible first | show wpS _ _ _ _ | show putD _ _ _ _ | show putW _ _ _ _ | show splitG _ _ _ | show wpQ _ _ _ _ _ _ | show wpD _ _ _ _ _ _ _ | show wpX _ _ _ _ _ _ _ | show expX _ _ _ _ _ _ | show stepX _ _ _ _ | show keepR _ _ _ | show wpY _ _ _ _); conv => whnf) | ((with_reducible show RetN _ _ _); refine retB fun β => ?_) | ((with_reducible show _ ∧ _); first | (apply And.intro; (· intro h; exfalso; first | omega | (revert h; decide)); intro _) | (apply And.intro; rotate_left; (· intro h; exfalso; first | omega | (revert h; decide)); intro _) | (refine ⟨fun _ => ?_, fun _ => ?_⟩) | (apply And.intro; · kernel_rfl) | (apply And.intro; · (show inK _ _; unfold inK; omega)) | (apply And.intro; · (show (_ : Int) ≤ 9223372036854775807; (try simp only [List.length_append, List.length_drop, List.length_take, List.length_cons, List.length_nil]); omega))) | ((with_reducible show AllBe _); refine allBe fun βe => ?_; conv => whnf) | ((with_reducible show bothX _ _); refine bothI ?_ ?_; conv => whnf) | (with_reducible exact trivial) | ((with_reducible show CallN _ _ _ _ _ _ _ _); refine call_of env_ok rfl 1000 ?_) | ((with_reducible show XopN _ _ _ _ _ _); refine xop_of env_ok rfl 1000 ?_) | ((with_reducible show CallX _ _ _ _ _ _); first | (refine callNat .i64 10 (xn * yd) hw0 (by kernel_rfl) rfl (fun β w' hm => T1 w' hm.below) (fun a1 c1 h1 h2 h3 => ?_)) | (refine callNat .i64 10 (yn * xd) hw0 (by kernel_rfl) rfl (fun β w' hm => T2 w' hm.below) (fun a2 c2 h4 h5 h6 => ?_)) | (refine callNat .i64 10 (xd * yd) hw0 (by kernel_rfl) rfl (fun β w' hm => T3 w' hm.below) (fun a3 c3 h7 h8 h9 => ?_)) | (refine callX (.int .i64 (ExP.cmpS (xn * yd) (yn * xd))) (by kernel_rfl) rfl trivial (fun β w' hm => rcompare_any a1 a2 c1 c2 _ _ w' (by omega) (by omega) (by first | exact hm.slF 3 rfl | exact hm.slF 4 rfl) (by first | exact hm.slF 3 rfl | exact hm.slF 4 rfl)) ?_) | (refine callNat .i64 10 (xn * yd - yn * xd) hw0 (by kernel_rfl) rfl (fun β w' hm => rless_any a1 a2 c1 c2 _ _ w' (by omega) (by omega) hle (by first | exact hm.slF 3 rfl | exact hm.slF 4 rfl) (by first | exact hm.slF 3 rfl | exact hm.slF 4 rfl)) (fun a4 c4 h10 h11 h12 => ?_))) | ((with_reducible show OpX _ _ _ _); first | fail) | ((with_reducible show ∃ _ : SV, _); first | (refine ⟨_, ?ok, x_eqBB xm ym false (fun _ => rfl) (fun _ => rfl) (by simpa using hm) Tryz.underlying4, ?_⟩; (case ok => exact fun _ _ => trivial))) | ((with_reducible show ∃ _, _); first | fail))
      all_goals first | (exfalso; simp_all; done) | (exfalso; omega) | skip
      all_goals refine ret fun β w' hm => ?_
      all_goals exact ⟨⟨_, _, _, a4, c4, a3, c3⟩, rfl, rfl, ⟨h10, h7, h11, h8⟩, Ls2 (by first | exact hm.slF 2 rfl | exact hm.slF 3 rfl | exact hm.slF 4 rfl | exact hm.slF 5 rfl | exact hm.slF 6 rfl | exact hm.slF 7 rfl | exact hm.slF 8 rfl | exact hm.slF 9 rfl) (by first | exact hm.freshF 2 rfl rfl | exact hm.freshF 3 rfl rfl | exact hm.freshF 4 rfl rfl | exact hm.freshF 5 rfl rfl | exact hm.freshF 6 rfl rfl | exact hm.freshF 7 rfl rfl | exact hm.freshF 8 rfl rfl | exact hm.freshF 9 rfl rfl) (by first | exact hm.slF 2 rfl | exact hm.slF 3 rfl | exact hm.slF 4 rfl | exact hm.slF 5 rfl | exact hm.slF 6 rfl | exact hm.slF 7 rfl | exact hm.slF 8 rfl | exact hm.slF 9 rfl) (by first | exact hm.freshF 2 rfl rfl | exact hm.freshF 3 rfl rfl | exact hm.freshF 4 rfl rfl | exact hm.freshF 5 rfl rfl | exact hm.freshF 6 rfl rfl | exact hm.freshF 7 rfl rfl | exact hm.freshF 8 rfl rfl | exact hm.freshF 9 rfl rfl), hm.below⟩
    · have hS : ExP.sumN ⟨xm, xn, xd⟩ ⟨ym, yn, yd⟩ = ⟨ym, yn * xd - xn * yd, xd * yd⟩ := by simp [ExP.sumN, hm, hle]
      rw [hS]
      have hc := fun h => hle (hge.1 h)
      refine enter env_ok Tryz.func23 rfl Tryz.results23 Tryz.ntmps23 [] [200001, 100003, 100005, 100007] [.agg [.bool xm, .any (.slice xa (ExP.nd 10 xn) xc), .any (.slice xb (ExP.nd 10 xd) xe)], .agg [.bool ym, .any (.slice ya (ExP.nd 10 yn) yc), .any (.slice yb (ExP.nd 10 yd) ye)]] ⟨⟨trivial, rfl, rfl, trivial⟩, ⟨trivial, rfl, rfl, trivial⟩, trivial⟩ (Nat.le_of_ble_eq_true rfl) w _ 1000 ?_
      repeat' (first | ((with_reducible first | show wpS _ _ _ _ | show putD _ _ _ _ | show putW _ _ _ _ | show splitG _ _ _ | show wpQ _ _ _ _ _ _ | show wpD _ _ _ _ _ _ _ | show wpX _ _ _ _ _ _ _ | show expX _ _ _ _ _ _ | show stepX _ _ _ _ | show keepR _ _ _ | show wpY _ _ _ _); conv => whnf) | ((with_reducible show RetN _ _ _); refine retB fun β => ?_) | ((with_reducible show _ ∧ _); first | (apply And.intro; (· intro h; exfalso; first | omega | (revert h; decide)); intro _) | (apply And.intro; rotate_left; (· intro h; exfalso; first | omega | (revert h; decide)); intro _) | (refine ⟨fun _ => ?_, fun _ => ?_⟩) | (apply And.intro; · kernel_rfl) | (apply And.intro; · (show inK _ _; unfold inK; omega)) | (apply And.intro; · (show (_ : Int) ≤ 9223372036854775807; (try simp only [List.length_append, List.length_drop, List.length_take, List.length_cons, List.length_nil]); omega))) | ((with_reducible show AllBe _); refine allBe fun βe => ?_; conv => whnf) | ((with_reducible show bothX _ _); refine bothI ?_ ?_; conv => whnf) | (with_reducible exact trivial) | ((with_reducible show CallN _ _ _ _ _ _ _ _); refine call_of env_ok rfl 1000 ?_) | ((with_reducible show XopN _ _ _ _ _ _); refine xop_of env_ok rfl 1000 ?_) | ((with_reducible show CallX _ _ _ _ _ _); first | (refine callNat .i64 10 (xn * yd) hw0 (by kernel_rfl) rfl (fun β w' hm => T1 w' hm.below) (fun a1 c1 h1 h2 h3 => ?_)) | (refine callNat .i64 10 (yn * xd) hw0 (by kernel_rfl) rfl (fun β w' hm => T2 w' hm.below) (fun a2 c2 h4 h5 h6 => ?_)) | (refine callNat .i64 10 (xd * yd) hw0 (by kernel_rfl) rfl (fun β w' hm => T3 w' hm.below) (fun a3 c3 h7 h8 h9 => ?_)) | (refine callX (.int .i64 (ExP.cmpS (xn * yd) (yn * xd))) (by kernel_rfl) rfl trivial (fun β w' hm => rcompare_any a1 a2 c1 c2 _ _ w' (by omega) (by omega) (by first | exact hm.slF 3 rfl | exact hm.slF 4 rfl) (by first | exact hm.slF 3 rfl | exact hm.slF 4 rfl)) ?_) | (refine callNat .i64 10 (yn * xd - xn * yd) hw0 (by kernel_rfl) rfl (fun β w' hm => rless_any a2 a1 c2 c1 _ _ w' (by omega) (by omega) (by omega) (by first | exact hm.slF 3 rfl | exact hm.slF 4 rfl) (by first | exact hm.slF 3 rfl | exact hm.slF 4 rfl)) (fun a4 c4 h10 h11 h12 => ?_))) | ((with_reducible show OpX _ _ _ _); first | fail) | ((with_reducible show ∃ _ : SV, _); first | (refine ⟨_, ?ok, x_eqBB xm ym false (fun _ => rfl) (fun _ => rfl) (by simpa using hm) Tryz.underlying4, ?_⟩; (case ok => exact fun _ _ => trivial))) | ((with_reducible show ∃ _, _); first | fail))
      all_goals first | (exfalso; simp_all; done) | (exfalso; omega) | skip
      all_goals refine ret fun β w' hm => ?_
      all_goals exact ⟨⟨_, _, _, a4, c4, a3, c3⟩, rfl, rfl, ⟨h10, h7, h11, h8⟩, Ls2 (by first | exact hm.slF 2 rfl | exact hm.slF 3 rfl | exact hm.slF 4 rfl | exact hm.slF 5 rfl | exact hm.slF 6 rfl | exact hm.slF 7 rfl | exact hm.slF 8 rfl | exact hm.slF 9 rfl) (by first | exact hm.freshF 2 rfl rfl | exact hm.freshF 3 rfl rfl | exact hm.freshF 4 rfl rfl | exact hm.freshF 5 rfl rfl | exact hm.freshF 6 rfl rfl | exact hm.freshF 7 rfl rfl | exact hm.freshF 8 rfl rfl | exact hm.freshF 9 rfl rfl) (by first | exact hm.slF 2 rfl | exact hm.slF 3 rfl | exact hm.slF 4 rfl | exact hm.slF 5 rfl | exact hm.slF 6 rfl | exact hm.slF 7 rfl | exact hm.slF 8 rfl | exact hm.slF 9 rfl) (by first | exact hm.freshF 2 rfl rfl | exact hm.freshF 3 rfl rfl | exact hm.freshF 4 rfl rfl | exact hm.freshF 5 rfl rfl | exact hm.freshF 6 rfl rfl | exact hm.freshF 7 rfl rfl | exact hm.freshF 8 rfl rfl | exact hm.freshF 9 rfl rfl), hm.below⟩
set_option maxRecDepth 100000 in
set_option maxHeartbeats 4000000 in
theorem rmul_any (x y : FrV) (w : World) (hw0 : 0 < w.heap.size) (hx : FrIn .i64 10 x w) (hy : FrIn .i64 10 y w)
    (hxn : ExP.nd 10 x.n ≤ 1000000) (hxd : ExP.nd 10 x.d ≤ 1000000) (hyn : ExP.nd 10 y.n ≤ 1000000) (hyd : ExP.nd 10 y.d ≤ 1000000) :
    Calls Tryz.prog 21 #[x.val 10, y.val 10] w (FrOut .i64 10 (ExP.mulN x.num y.num) w) := by
  obtain ⟨xm, xn, xd, xa, xc, xb, xe⟩ := x
  obtain ⟨ym, yn, yd, ya, yc, yb, ye⟩ := y
  obtain ⟨hx1, hx2, ⟨hx3, hx4, hx5, hx6⟩⟩ := hx
  obtain ⟨hy1, hy2, ⟨hy3, hy4, hy5, hy6⟩⟩ := hy
  dsimp only [FrV.num, FrV.val] at *
  refine enter env_ok Tryz.func21 rfl Tryz.results21 Tryz.ntmps21 [] [200001] [.agg [.bool xm, .any (.slice xa (ExP.nd 10 xn) xc), .any (.slice xb (ExP.nd 10 xd) xe)], .agg [.bool ym, .any (.slice ya (ExP.nd 10 yn) yc), .any (.slice yb (ExP.nd 10 yd) ye)]] ⟨⟨trivial, rfl, rfl, trivial⟩, ⟨trivial, rfl, rfl, trivial⟩, trivial⟩ (Nat.le_of_ble_eq_true rfl) w _ 1000 ?_
  repeat' (first | ((with_reducible first | show wpS _ _ _ _ | show putD _ _ _ _ | show putW _ _ _ _ | show splitG _ _ _ | show wpQ _ _ _ _ _ _ | show wpD _ _ _ _ _ _ _ | show wpX _ _ _ _ _ _ _ | show expX _ _ _ _ _ _ | show stepX _ _ _ _ | show keepR _ _ _ | show wpY _ _ _ _); conv => whnf) | ((with_reducible show RetN _ _ _); refine retB fun β => ?_) | ((with_reducible show _ ∧ _); first | (apply And.intro; (· intro h; exfalso; first | omega | (revert h; decide)); intro _) | (apply And.intro; rotate_left; (· intro h; exfalso; first | omega | (revert h; decide)); intro _) | (refine ⟨fun _ => ?_, fun _ => ?_⟩) | (apply And.intro; · kernel_rfl) | (apply And.intro; · (show inK _ _; unfold inK; omega)) | (apply And.intro; · (show (_ : Int) ≤ 9223372036854775807; (try simp only [List.length_append, List.length_drop, List.length_take, List.length_cons, List.length_nil]); omega))) | ((with_reducible show AllBe _); refine allBe fun βe => ?_; conv => whnf) | ((with_reducible show bothX _ _); refine bothI ?_ ?_; conv => whnf) | (with_reducible exact trivial) | ((with_reducible show CallN _ _ _ _ _ _ _ _); refine call_of env_ok rfl 1000 ?_) | ((with_reducible show XopN _ _ _ _ _ _); refine xop_of env_ok rfl 1000 ?_) | ((with_reducible show CallX _ _ _ _ _ _); first | (refine callNat .i64 10 (xn * yn) hw0 (by kernel_rfl) rfl (fun β w' hm => rtimes_any xa ya xc yc xn yn w' (by omega) (by omega) (hx1.below hm.below) (hy1.below hm.below)) (fun a4 c4 h10 h11 h12 => ?_)) | (refine callNat .i64 10 (xd * yd) hw0 (by kernel_rfl) rfl (fun β w' hm => rtimes_any xb yb xe ye xd yd w' (by omega) (by omega) (hx2.below hm.below) (hy2.below hm.below)) (fun a3 c3 h7 h8 h9 => ?_))) | ((with_reducible show OpX _ _ _ _); first | fail) | ((with_reducible show ∃ _ : SV, _); first | (refine ⟨_, ?ok, x_neBB xm ym (fun _ => rfl) (fun _ => rfl) Tryz.underlying4, ?_⟩; (case ok => exact fun _ _ => trivial))) | ((with_reducible show ∃ _, _); first | fail))
  all_goals refine ret fun β w' hm => ?_
  all_goals exact ⟨⟨_, _, _, a4, c4, a3, c3⟩, rfl, rfl, ⟨h10, h7, h11, h8⟩, Ls2 (by first | exact hm.slF 2 rfl | exact hm.slF 3 rfl | exact hm.slF 4 rfl | exact hm.slF 5 rfl | exact hm.slF 6 rfl | exact hm.slF 7 rfl | exact hm.slF 8 rfl | exact hm.slF 9 rfl) (by first | exact hm.freshF 2 rfl rfl | exact hm.freshF 3 rfl rfl | exact hm.freshF 4 rfl rfl | exact hm.freshF 5 rfl rfl | exact hm.freshF 6 rfl rfl | exact hm.freshF 7 rfl rfl | exact hm.freshF 8 rfl rfl | exact hm.freshF 9 rfl rfl) (by first | exact hm.slF 2 rfl | exact hm.slF 3 rfl | exact hm.slF 4 rfl | exact hm.slF 5 rfl | exact hm.slF 6 rfl | exact hm.slF 7 rfl | exact hm.slF 8 rfl | exact hm.slF 9 rfl) (by first | exact hm.freshF 2 rfl rfl | exact hm.freshF 3 rfl rfl | exact hm.freshF 4 rfl rfl | exact hm.freshF 5 rfl rfl | exact hm.freshF 6 rfl rfl | exact hm.freshF 7 rfl rfl | exact hm.freshF 8 rfl rfl | exact hm.freshF 9 rfl rfl), hm.below⟩
set_option maxRecDepth 100000 in
theorem rneg_any (m : Bool) (a b : Option Addr) (n c d e : Nat) (w : World) :
    Calls Tryz.prog 24 #[.agg #[.bool m, .slice a n c, .slice b d e]] w fun E w' => E = .returned (.agg #[.bool !m, .slice a n c, .slice b d e]) ∧ Below w.heap.size w w' := by
  refine enter env_ok Tryz.func24 rfl Tryz.results24 Tryz.ntmps24 [] [] [.agg [.bool m, .any (.slice a n c), .any (.slice b d e)]] ⟨⟨trivial, rfl, rfl, trivial⟩, trivial⟩ (Nat.le_of_ble_eq_true rfl) w _ 1000 ?_
  repeat' (first | ((with_reducible first | show wpS _ _ _ _ | show putD _ _ _ _ | show putW _ _ _ _ | show splitG _ _ _ | show wpQ _ _ _ _ _ _ | show wpD _ _ _ _ _ _ _ | show wpX _ _ _ _ _ _ _ | show expX _ _ _ _ _ _ | show stepX _ _ _ _ | show keepR _ _ _ | show wpY _ _ _ _); conv => whnf) | ((with_reducible show RetN _ _ _); refine retB fun β => ?_) | ((with_reducible show _ ∧ _); first | (apply And.intro; (· intro h; exfalso; first | omega | (revert h; decide)); intro _) | (apply And.intro; rotate_left; (· intro h; exfalso; first | omega | (revert h; decide)); intro _) | (refine ⟨fun _ => ?_, fun _ => ?_⟩) | (apply And.intro; · kernel_rfl) | (apply And.intro; · (show inK _ _; unfold inK; omega)) | (apply And.intro; · (show (_ : Int) ≤ 9223372036854775807; (try simp only [List.length_append, List.length_drop, List.length_take, List.length_cons, List.length_nil]); omega))) | ((with_reducible show AllBe _); refine allBe fun βe => ?_; conv => whnf) | ((with_reducible show bothX _ _); refine bothI ?_ ?_; conv => whnf) | (with_reducible exact trivial) | ((with_reducible show CallN _ _ _ _ _ _ _ _); refine call_of env_ok rfl 1000 ?_) | ((with_reducible show XopN _ _ _ _ _ _); refine xop_of env_ok rfl 1000 ?_) | ((with_reducible show CallX _ _ _ _ _ _); first | fail) | ((with_reducible show OpX _ _ _ _); first | fail) | ((with_reducible show ∃ _ : SV, _); first | fail) | ((with_reducible show ∃ _, _); first | fail))
  all_goals rfl
set_option maxRecDepth 100000 in
theorem rinv_any (m : Bool) (a b : Option Addr) (n c d e : Nat) (w : World) :
    Calls Tryz.prog 22 #[.agg #[.bool m, .slice a n c, .slice b d e]] w fun E w' => E = .returned (.agg #[.bool m, .slice b d e, .slice a n c]) ∧ Below w.heap.size w w' := by
  refine enter env_ok Tryz.func22 rfl Tryz.results22 Tryz.ntmps22 [] [] [.agg [.bool m, .any (.slice a n c), .any (.slice b d e)]] ⟨⟨trivial, rfl, rfl, trivial⟩, trivial⟩ (Nat.le_of_ble_eq_true rfl) w _ 1000 ?_
  repeat' (first | ((with_reducible first | show wpS _ _ _ _ | show putD _ _ _ _ | show putW _ _ _ _ | show splitG _ _ _ | show wpQ _ _ _ _ _ _ | show wpD _ _ _ _ _ _ _ | show wpX _ _ _ _ _ _ _ | show expX _ _ _ _ _ _ | show stepX _ _ _ _ | show keepR _ _ _ | show wpY _ _ _ _); conv => whnf) | ((with_reducible show RetN _ _ _); refine retB fun β => ?_) | ((with_reducible show _ ∧ _); first | (apply And.intro; (· intro h; exfalso; first | omega | (revert h; decide)); intro _) | (apply And.intro; rotate_left; (· intro h; exfalso; first | omega | (revert h; decide)); intro _) | (refine ⟨fun _ => ?_, fun _ => ?_⟩) | (apply And.intro; · kernel_rfl) | (apply And.intro; · (show inK _ _; unfold inK; omega)) | (apply And.intro; · (show (_ : Int) ≤ 9223372036854775807; (try simp only [List.length_append, List.length_drop, List.length_take, List.length_cons, List.length_nil]); omega))) | ((with_reducible show AllBe _); refine allBe fun βe => ?_; conv => whnf) | ((with_reducible show bothX _ _); refine bothI ?_ ?_; conv => whnf) | (with_reducible exact trivial) | ((with_reducible show CallN _ _ _ _ _ _ _ _); refine call_of env_ok rfl 1000 ?_) | ((with_reducible show XopN _ _ _ _ _ _); refine xop_of env_ok rfl 1000 ?_) | ((with_reducible show CallX _ _ _ _ _ _); first | fail) | ((with_reducible show OpX _ _ _ _); first | fail) | ((with_reducible show ∃ _ : SV, _); first | fail) | ((with_reducible show ∃ _, _); first | fail))
  all_goals rfl
theorem ExP.nd_z {b x : Nat} (hb : 2 ≤ b) : ((ExP.nd b x : Int) = 0) = (x = 0) := by
  have := ExP.nd_pos (b := b) (x := x) hb
  apply propext
  constructor <;> intro h <;> omega
set_option maxRecDepth 100000 in
theorem rsign_any (m : Bool) (a b : Option Addr) (x c d e : Nat) (w : World) :
    Calls Tryz.prog 19 #[.agg #[.bool m, .slice a (ExP.nd 10 x) c, .slice b d e]] w fun E w' => E = .returned (.int .i64 (if x = 0 then 0 else if m = true then -1 else 1)) ∧ Below w.heap.size w w' := by
  have hz := ExP.nd_z (b := 10) (x := x) (by omega)
  refine enter env_ok Tryz.func19 rfl Tryz.results19 Tryz.ntmps19 [] [] [.agg [.bool m, .any (.slice a (ExP.nd 10 x) c), .any (.slice b d e)]] ⟨⟨trivial, rfl, rfl, trivial⟩, trivial⟩ (Nat.le_of_ble_eq_true rfl) w _ 1000 ?_
  repeat' (first | ((with_reducible first | show wpS _ _ _ _ | show putD _ _ _ _ | show putW _ _ _ _ | show splitG _ _ _ | show wpQ _ _ _ _ _ _ | show wpD _ _ _ _ _ _ _ | show wpX _ _ _ _ _ _ _ | show expX _ _ _ _ _ _ | show stepX _ _ _ _ | show keepR _ _ _ | show wpY _ _ _ _); conv => whnf) | ((with_reducible show RetN _ _ _); refine retB fun β => ?_) | ((with_reducible show _ ∧ _); first | (apply And.intro; (· intro h; exfalso; first | omega | (revert h; decide)); intro _) | (apply And.intro; rotate_left; (· intro h; exfalso; first | omega | (revert h; decide)); intro _) | (refine ⟨fun _ => ?_, fun _ => ?_⟩) | (apply And.intro; · kernel_rfl) | (apply And.intro; · (show inK _ _; unfold inK; omega)) | (apply And.intro; · (show (_ : Int) ≤ 9223372036854775807; (try simp only [List.length_append, List.length_drop, List.length_take, List.length_cons, List.length_nil]); omega))) | ((with_reducible show AllBe _); refine allBe fun βe => ?_; conv => whnf) | ((with_reducible show bothX _ _); refine bothI ?_ ?_; conv => whnf) | (with_reducible exact trivial) | ((with_reducible show CallN _ _ _ _ _ _ _ _); refine call_of env_ok rfl 1000 ?_) | ((with_reducible show XopN _ _ _ _ _ _); refine xop_of env_ok rfl 1000 ?_) | ((with_reducible show CallX _ _ _ _ _ _); first | fail) | ((with_reducible show OpX _ _ _ _); first | fail) | ((with_reducible show ∃ _ : SV, _); first | (refine ⟨_, ?ok, x_len Tryz.underlying34, ?_⟩; (case ok => exact fun _ _ => trivial))) | ((with_reducible show ∃ _, _); first | fail))
  all_goals simp_all [SV.den]
set_option maxRecDepth 100000 in
set_option maxHeartbeats 4000000 in
theorem rcmp_any (x y : FrV) (w : World) (hw0 : 0 < w.heap.size) (hx : FrIn .i64 10 x w) (hy : FrIn .i64 10 y w)
    (hxn : ExP.nd 10 x.n ≤ 1000000) (hxd : ExP.nd 10 x.d ≤ 1000000) (hyn : ExP.nd 10 y.n ≤ 1000000) (hyd : ExP.nd 10 y.d ≤ 1000000) :
    Calls Tryz.prog 25 #[x.val 10, y.val 10] w fun E w' => E = .returned (.int .i64 (ExP.sgn (ExP.sumN x.num (ExP.negN y.num)))) ∧ Below w.heap.size w w' := by
  have S1 := fun (w' : World) (h : Below w.heap.size w w') => radd_any x ⟨!y.m, y.n, y.d, y.a, y.c, y.b, y.e⟩ w' (Nat.lt_of_lt_of_le hw0 h.size) (hx.below h) ⟨hy.sn.below h, hy.sd.below h, ⟨hy.cap.an, hy.cap.bn, hy.cap.cn, hy.cap.cd⟩⟩ hxn hxd hyn hyd
  obtain ⟨xm, xn, xd, xa, xc, xb, xe⟩ := x
  obtain ⟨ym, yn, yd, ya, yc, yb, ye⟩ := y
  dsimp only [FrV.num, FrV.val, ExP.negN] at *
  obtain ⟨S, hS⟩ : ∃ S, S = ExP.sumN ⟨xm, xn, xd⟩ ⟨!ym, yn, yd⟩ := ⟨_, rfl⟩
  rw [← hS] at S1 ⊢
  clear hS
  obtain ⟨M, P, D⟩ := S
  refine enter env_ok Tryz.func25 rfl Tryz.results25 Tryz.ntmps25 [] [200001] [.agg [.bool xm, .any (.slice xa (ExP.nd 10 xn) xc), .any (.slice xb (ExP.nd 10 xd) xe)], .agg [.bool ym, .any (.slice ya (ExP.nd 10 yn) yc), .any (.slice yb (ExP.nd 10 yd) ye)]] ⟨⟨trivial, rfl, rfl, trivial⟩, ⟨trivial, rfl, rfl, trivial⟩, trivial⟩ (Nat.le_of_ble_eq_true rfl) w _ 1000 ?_
  repeat' (first | ((with_reducible first | show wpS _ _ _ _ | show putD _ _ _ _ | show putW _ _ _ _ | show splitG _ _ _ | show wpQ _ _ _ _ _ _ | show wpD _ _ _ _ _ _ _ | show wpX _ _ _ _ _ _ _ | show expX _ _ _ _ _ _ | show stepX _ _ _ _ | show keepR _ _ _ | show wpY _ _ _ _); conv => whnf) | ((with_reducible show RetN _ _ _); refine retB fun β => ?_) | ((with_reducible show _ ∧ _); first | (apply And.intro; (· intro h; exfalso; first | omega | (revert h; decide)); intro _) | (apply And.intro; rotate_left; (· intro h; exfalso; first | omega | (revert h; decide)); intro _) | (refine ⟨fun _ => ?_, fun _ => ?_⟩) | (apply And.intro; · kernel_rfl) | (apply And.intro; · (show inK _ _; unfold inK; omega)) | (apply And.intro; · (show (_ : Int) ≤ 9223372036854775807; (try simp only [List.length_append, List.length_drop, List.length_take, List.length_cons, List.length_nil]); omega))) | ((with_reducible show AllBe _); refine allBe fun βe => ?_; conv => whnf) | ((with_reducible show bothX _ _); refine bothI ?_ ?_; conv => whnf) | (with_reducible exact trivial) | ((with_reducible show CallN _ _ _ _ _ _ _ _); refine call_of env_ok rfl 1000 ?_) | ((with_reducible show XopN _ _ _ _ _ _); refine xop_of env_ok rfl 1000 ?_) | ((with_reducible show CallX _ _ _ _ _ _); first | (refine callX (.agg [.bool !ym, .any (.slice ya (ExP.nd 10 yn) yc), .any (.slice yb (ExP.nd 10 yd) ye)]) (by kernel_rfl) rfl (⟨trivial, rfl, rfl, trivial⟩) (fun β w hm => rneg_any ym ya yb _ yc _ ye w) ?_) | (refine callFr .i64 10 ⟨M, P, D⟩ hw0 (by kernel_rfl) rfl (fun β w' hm => S1 w' hm.below) (fun a3 c3 a4 c4 hcap3 => ?_)) | (refine callX (.int .i64 (if P = 0 then 0 else if M = true then -1 else 1)) (by kernel_rfl) rfl (trivial) (fun β w hm => rsign_any M a3 a4 P c3 _ c4 w) ?_)) | ((with_reducible show OpX _ _ _ _); first | fail) | ((with_reducible show ∃ _ : SV, _); first | fail) | ((with_reducible show ∃ _, _); first | fail))
  all_goals rfl
end Go.Proofs.YtfodbfbljeeojaaGreatDoor
namespace Go.Proofs.YtfodbfbljeeojaaGreatDoor
open Go.RowKit
open Sym
attribute [local irreducible] Calls Sym.AggEq ExP.nd ExP.dig ExP.upd
set_option maxRecDepth 100000 in
theorem flatFrac : Flat Tryz.prog (Tryz.prog.fieldsOf 23).toList [.str, .str] 0 := flat_of _ _ _ (by kernel_rfl)
set_option maxRecDepth 100000 in
theorem frac_eq (a b c d : List UInt8) (w : World) : (Op.equalIn 10000 23 (.agg #[.string (bstr a), .string (bstr b)]) (.agg #[.string (bstr c), .string (bstr d)])).run Tryz.prog w = .ok (a == c && b == d) w := by
  rw [agg_eq w 23 _ _ _ (by kernel_rfl) (by kernel_rfl) flatFrac rfl rfl]
  simp [ceqs, ceq, bstr_list]
section
attribute [local semireducible] Sym.AggEq
set_option maxRecDepth 100000 in
theorem fracAgg (a b c d : List UInt8) : AggEq Tryz.prog 23 [.str a, .str b] [.str c, .str d] (a == c && b == d) := ⟨by kernel_rfl, fun _ w => frac_eq a b c d w⟩
theorem fracAggT (a b : List UInt8) : AggEq Tryz.prog 23 [.str a, .str b] [.str a, .str b] true := by
  have := fracAgg a b a b
  simpa using this
end
set_option maxRecDepth 100000 in
set_option maxHeartbeats 4000000 in
theorem lfrac_any (F : ExP.Fr) (E : Int) (x : FrV) (w : World) (hw0 : 0 < w.heap.size) (hx : FrIn .i64 10 x w) (hd : 0 < x.d)
    (hxn : ExP.nd 10 x.n ≤ 1000000) (hxd : ExP.nd 10 x.d ≤ 1000000) (hF : F = ExP.writeF x.num) (hE : E = ExP.writeE x.num) :
    Calls Tryz.prog 20 #[frV F, .int .i64 E, x.val 10] w fun e w' => e = .returned (.bool true) ∧ Below w.heap.size w w' := by
  have W1 := fun (w' : World) (h : Below w.heap.size w w') => rfrac_any x w' (Nat.lt_of_lt_of_le hw0 h.size) (hx.below h) hd hxn hxd
  rw [← hF, ← hE] at W1
  clear hF hE
  obtain ⟨xm, xn, xd, xa, xc, xb, xe⟩ := x
  obtain ⟨F1, F2⟩ := F
  dsimp only [FrV.num, FrV.val] at *
  refine enter env_ok Tryz.func20 rfl Tryz.results20 Tryz.ntmps20 [] [] [.agg [.str F1, .str F2], .int .i64 E, .agg [.bool xm, .any (.slice xa (ExP.nd 10 xn) xc), .any (.slice xb (ExP.nd 10 xd) xe)]] ⟨⟨trivial, trivial, trivial⟩, trivial, ⟨trivial, rfl, rfl, trivial⟩, trivial⟩ (Nat.le_of_ble_eq_true rfl) w _ 1000 ?_
  repeat' (first | ((with_reducible first | show wpS _ _ _ _ | show putD _ _ _ _ | show putW _ _ _ _ | show splitG _ _ _ | show wpQ _ _ _ _ _ _ | show wpD _ _ _ _ _ _ _ | show wpX _ _ _ _ _ _ _ | show expX _ _ _ _ _ _ | show stepX _ _ _ _ | show keepR _ _ _ | show wpY _ _ _ _); conv => whnf) | ((with_reducible show RetN _ _ _); refine retB fun β => ?_) | ((with_reducible show _ ∧ _); first | (apply And.intro; (· intro h; exfalso; first | omega | (revert h; decide)); intro _) | (apply And.intro; rotate_left; (· intro h; exfalso; first | omega | (revert h; decide)); intro _) | (refine ⟨fun _ => ?_, fun _ => ?_⟩) | (apply And.intro; · kernel_rfl) | (apply And.intro; · (show inK _ _; unfold inK; omega)) | (apply And.intro; · (show (_ : Int) ≤ 9223372036854775807; (try simp only [List.length_append, List.length_drop, List.length_take, List.length_cons, List.length_nil]); omega))) | ((with_reducible show AllBe _); refine allBe fun βe => ?_; conv => whnf) | ((with_reducible show bothX _ _); refine bothI ?_ ?_; conv => whnf) | (with_reducible exact trivial) | ((with_reducible show CallN _ _ _ _ _ _ _ _); refine call_of env_ok rfl 1000 ?_) | ((with_reducible show XopN _ _ _ _ _ _); refine xop_of env_ok rfl 1000 ?_) | ((with_reducible show CallX _ _ _ _ _ _); first | (refine callX (.tup [.agg [.str F1, .str F2], .int .i64 E]) (by kernel_rfl) rfl (⟨⟨trivial, trivial, trivial⟩, trivial, trivial⟩) (fun β w hm => W1 w hm.below) ?_)) | ((with_reducible show OpX _ _ _ _); first | fail) | ((with_reducible show ∃ _ : SV, _); first | fail) | ((with_reducible show ∃ _, _); first | (refine ⟨true, fracAggT F1 F2, ?_⟩)))
  all_goals first | rfl | (exfalso; simp_all; done) | (simp [SV.den]; done) | skip
set_option maxRecDepth 100000 in
theorem lboth_any (f g : ExP.Fr) (w : World) (hw0 : 0 < w.heap.size) (h1 : f.1.length ≤ 9223372036854775807) (h2 : f.2.length ≤ 9223372036854775807) (h3 : g.1.length ≤ 9223372036854775807) (h4 : g.2.length ≤ 9223372036854775807) :
    Calls Tryz.prog 17 #[frV f, frV g] w fun e w' => e = .returned (.int .i64 (ExP.bothE f g)) ∧ Below w.heap.size w w' := by
  have R1 := fun (w' : World) (h : Below w.heap.size w w') => fracError_any f w' (Nat.lt_of_lt_of_le hw0 h.size) h1 h2
  have R2 := fun (w' : World) (h : Below w.heap.size w w') => fracError_any g w' (Nat.lt_of_lt_of_le hw0 h.size) h3 h4
  have hE : ExP.bothE f g = if ExP.readE f = 0 then ExP.readE g else ExP.readE f := rfl
  generalize ExP.bothE f g = E at *
  obtain ⟨f1, f2⟩ := f
  obtain ⟨g1, g2⟩ := g
  dsimp only at *
  generalize ExP.readE (f1, f2) = E1 at *
  generalize ExP.readE (g1, g2) = E2 at *
  refine enter env_ok Tryz.func17 rfl Tryz.results17 Tryz.ntmps17 [] [] [.agg [.str f1, .str f2], .agg [.str g1, .str g2]] (by simp [SV.oks, SV.ok]) (Nat.le_of_ble_eq_true rfl) w _ 1000 ?_
  repeat' (first | ((with_reducible first | show wpS _ _ _ _ | show putD _ _ _ _ | show putW _ _ _ _ | show splitG _ _ _ | show wpQ _ _ _ _ _ _ | show wpD _ _ _ _ _ _ _ | show wpX _ _ _ _ _ _ _ | show expX _ _ _ _ _ _ | show stepX _ _ _ _ | show keepR _ _ _ | show wpY _ _ _ _); conv => whnf) | ((with_reducible show RetN _ _ _); refine retB fun β => ?_) | ((with_reducible show _ ∧ _); first | (apply And.intro; (· intro h; exfalso; first | omega | (revert h; decide)); intro _) | (apply And.intro; rotate_left; (· intro h; exfalso; first | omega | (revert h; decide)); intro _) | (refine ⟨fun _ => ?_, fun _ => ?_⟩) | (apply And.intro; · kernel_rfl) | (apply And.intro; · (show inK _ _; unfold inK; omega)) | (apply And.intro; · (show (_ : Int) ≤ 9223372036854775807; (try simp only [List.length_append, List.length_drop, List.length_take, List.length_cons, List.length_nil]); omega))) | ((with_reducible show AllBe _); refine allBe fun βe => ?_; conv => whnf) | ((with_reducible show bothX _ _); refine bothI ?_ ?_; conv => whnf) | (with_reducible exact trivial) | ((with_reducible show CallN _ _ _ _ _ _ _ _); refine call_of env_ok rfl 1000 ?_) | ((with_reducible show XopN _ _ _ _ _ _); refine xop_of env_ok rfl 1000 ?_) | ((with_reducible show CallX _ _ _ _ _ _); first | (refine callX (.int .i64 E1) (by kernel_rfl) rfl (trivial) (fun β w hm => R1 w hm.below) ?_) | (refine callX (.int .i64 E2) (by kernel_rfl) rfl (trivial) (fun β w hm => R2 w hm.below) ?_)) | ((with_reducible show OpX _ _ _ _); first | fail) | ((with_reducible show ∃ _ : SV, _); first | fail) | ((with_reducible show ∃ _, _); first | fail))
  all_goals simp_all [SV.den]
set_option maxRecDepth 100000 in
set_option maxHeartbeats 4000000 in
theorem fractions_any (w : World) (hw : XW w) (hw0 : 0 < w.heap.size) : Calls Tryz.prog 8 #[] w fun e w' => e = .returned (.bool true) ∧ Below w.heap.size w w' := by
  have A1 := fun (w' : World) (h : Below w.heap.size w w') => add_any ([49], [54]) ([49], [49, 48]) w' (hw.below h) (Nat.lt_of_lt_of_le hw0 h.size) (by simp) (by simp) (by simp) (by simp)
  rw [show ExP.twoF ([49], [54]) ([49], [49, 48]) (ExP.sumN (ExP.readN ([49], [54])) (ExP.readN ([49], [49, 48]))) 0 = ([52], [49, 53]) from by decide +kernel, show ExP.twoE ([49], [54]) ([49], [49, 48]) (ExP.sumN (ExP.readN ([49], [54])) (ExP.readN ([49], [49, 48]))) 0 = 0 from by decide +kernel] at A1
  refine enter env_ok Tryz.func8 rfl Tryz.results8 Tryz.ntmps8 [] [] [] (by simp [SV.oks, SV.ok]) (Nat.le_of_ble_eq_true rfl) w _ 1000 ?_
  repeat' (first | ((with_reducible first | show wpS _ _ _ _ | show putD _ _ _ _ | show putW _ _ _ _ | show splitG _ _ _ | show wpQ _ _ _ _ _ _ | show wpD _ _ _ _ _ _ _ | show wpX _ _ _ _ _ _ _ | show expX _ _ _ _ _ _ | show stepX _ _ _ _ | show keepR _ _ _ | show wpY _ _ _ _); conv => whnf) | ((with_reducible show RetN _ _ _); refine retB fun β => ?_) | ((with_reducible show _ ∧ _); first | (apply And.intro; (· intro h; exfalso; first | omega | (revert h; decide)); intro _) | (apply And.intro; rotate_left; (· intro h; exfalso; first | omega | (revert h; decide)); intro _) | (refine ⟨fun _ => ?_, fun _ => ?_⟩) | (apply And.intro; · kernel_rfl) | (apply And.intro; · (show inK _ _; unfold inK; omega)) | (apply And.intro; · (show (_ : Int) ≤ 9223372036854775807; (try simp only [List.length_append, List.length_drop, List.length_take, List.length_cons, List.length_nil]); omega))) | ((with_reducible show AllBe _); refine allBe fun βe => ?_; conv => whnf) | ((with_reducible show bothX _ _); refine bothI ?_ ?_; conv => whnf) | (with_reducible exact trivial) | ((with_reducible show CallN _ _ _ _ _ _ _ _); refine call_of env_ok rfl 1000 ?_) | ((with_reducible show XopN _ _ _ _ _ _); refine xop_of env_ok rfl 1000 ?_) | ((with_reducible show CallX _ _ _ _ _ _); first | (refine callX (.tup [.agg [.str [52], .str [49, 53]], .int .i64 0]) (by kernel_rfl) rfl (⟨⟨trivial, trivial, trivial⟩, trivial, trivial⟩) (fun β w hm => A1 w hm.below) ?_)) | ((with_reducible show OpX _ _ _ _); first | fail) | ((with_reducible show ∃ _ : SV, _); first | fail) | ((with_reducible show ∃ _, _); first | (refine ⟨true, fracAggT _ _, ?_⟩)))
  all_goals first | rfl | (exfalso; simp_all; done) | skip
end Go.Proofs.YtfodbfbljeeojaaGreatDoor
namespace Go.Proofs.YtfodbfbljeeojaaGreatDoor
open Go.RowKit
namespace Sym
theorem Sat.reserve {base : Nat} {w0 : Base} {β : Nat → Nat} {a : Act} {w : World} {fr : List (Nat × SV)} {rows : List (Nat × Bool × SRow)} {nx n : Nat} (m : Nat) (h0 : 0 < base) (hs : Sat base w0 ⟨fr, rows, nx, n⟩ β a w) :
    Sat base w0 ⟨fr, rows, nx + m, n⟩ (fun q => if q < nx then β q else 0) a w := by
  obtain ⟨h1, h2, h3, h4⟩ := hs
  have hbe : ∀ i, i < nx → (fun q => if q < nx then β q else 0) i = β i := fun i hi => by dsimp only; rw [if_pos hi]
  refine ⟨h1, h2, fun s v hv => ?_, h4.below, h4.base_le, fun i o r hi => ?_, fun q hq => ?_, fun i j r o r' hi hj hji => ?_, Nat.le_trans h4.n0 (Nat.le_add_right _ _), fun q hq => ?_⟩
  · obtain ⟨k1, k2⟩ := h3 s v hv
    exact ⟨by rw [k1, SV.den_ext hbe v k2], SV.ok_mono (Nat.le_add_right _ _) v k2⟩
  · obtain ⟨k1, k2, k3, k4⟩ := h4.row i o r hi
    have k3 : i < nx := k3
    try dsimp only
    rw [if_pos k3]
    exact ⟨RowIs_ext hbe k2 k1, SRow.ok_mono (Nat.le_add_right _ _) r k2, by omega, k4⟩
  · try dsimp only
    split
    · exact h4.lt q (by assumption)
    · have := h4.base_le; omega
  · have ki : i < nx := (h4.row i _ _ hi).2.2.1
    have kj : j < nx := (h4.row j _ _ hj).2.2.1
    try dsimp only
    rw [if_pos ki, if_pos kj]
    exact h4.inj i j r o r' hi hj hji
  · have h5 : w0.n0 ≤ nx := h4.n0
    have hq : q < w0.n0 := hq
    try dsimp only
    rw [if_pos (by omega)]; exact h4.ext q hq
theorem stop_reserve {C : Ctx} {k : List It} {fr : List (Nat × SV)} {rows : List (Nat × Bool × SRow)} {nx n : Nat} (m : Nat) (h0 : 0 < C.base) (h : StopN C k ⟨fr, rows, nx + m, n⟩) : StopN C k ⟨fr, rows, nx, n⟩ := by
  unfold StopN at h ⊢
  exact fun β a w hs => h _ a w (hs.reserve m h0)
/-- rows but one -/
def del (j : Nat) : List (Nat × Bool × SRow) → List (Nat × Bool × SRow)
  | [] => []
  | (i, x) :: r => match Nat.beq i j with
    | true => del j r
    | false => (i, x) :: del j r
theorem get_del {j : Nat} : ∀ (rows : List (Nat × Bool × SRow)) (q : Nat), get (del j rows) q = if q = j then none else get rows q
  | [], q => by simp [del, get]
  | (i, x) :: r, q => by
    have ih := get_del (j := j) r q
    unfold del
    cases h : Nat.beq i j with
    | true =>
      have := Nat.eq_of_beq_eq_true h
      subst this
      dsimp only
      rw [ih, get_cons]
      by_cases e : q = i
      · rw [if_pos e, if_pos e]
      · rw [if_neg e, if_neg e, if_neg (fun e' => e e'.symm)]
    | false =>
      have hne := Nat.ne_of_beq_eq_false h
      dsimp only
      rw [get_cons, get_cons, ih]
      by_cases e : i = q
      · subst e; rw [if_pos rfl, if_neg hne]; simp
      · rw [if_neg e]; by_cases e2 : q = j
        · simp [e2]
        · simp [e2, e]
theorem Sat.own {base : Nat} {w0 : Base} {β : Nat → Nat} {a : Act} {w : World} {fr : List (Nat × SV)} {rows : List (Nat × Bool × SRow)} {nx n : Nat} (s i j : Nat) {t : TypeId} {cs : List SV} (hs : Sat base w0 ⟨fr, rows, nx, n⟩ β a w)
    (hsl : get fr s = some (.ptr j 0)) (hj : get rows j = some (true, .cells t cs)) (hi : i < nx) (hij : i ≠ j) (hn0 : w0.n0 ≤ i) (hgi : get rows i = none)
    (hno : (mentF i fr || mentR i rows) = false) : Sat base w0 ⟨(s, .ptr i 0) :: fr, (i, true, .cells t cs) :: del j rows, nx, n⟩ (fun q => if q = i then β j else β q) a w := by
  obtain ⟨h1, h2, h3, h4⟩ := hs
  simp only [Bool.or_eq_false_iff] at hno
  have hβ : ∀ q, q ≠ i → (fun q => if q = i then β j else β q) q = β q := fun q hq => by dsimp only; rw [if_neg hq]
  obtain ⟨k1, k2, k3, k4⟩ := h4.row j _ _ hj
  refine ⟨h1, h2, fun s' v hv => ?_, ?_⟩
  · rw [get_cons] at hv
    by_cases e : s = s'
    · rw [if_pos e] at hv
      cases hv
      subst e
      obtain ⟨e1, e2⟩ := h3 s _ hsl
      refine ⟨?_, hi⟩
      rw [e1]
      simp [SV.den]
    · rw [if_neg e] at hv
      obtain ⟨e1, e2⟩ := h3 s' v hv
      exact ⟨by rw [e1, ment_den hβ v (mentF_get fr hno.1 hv)], e2⟩
  refine ⟨h4.below, h4.base_le, fun q o r hq => ?_, fun q hq => ?_, fun q p r o r' hq hp hpq => ?_, h4.n0, fun q hq => ?_⟩
  · rw [get_cons] at hq
    by_cases e : i = q
    · rw [if_pos e] at hq
      cases hq
      subst e
      try dsimp only
      rw [if_pos rfl]
      refine ⟨?_, k2, hi, k4⟩
      simp only [RowIs] at k1 ⊢; rw [ments_den hβ cs (mentR_get rows hno.2 hj)]; exact k1
    · rw [if_neg e, get_del] at hq
      split at hq
      · cases hq
      obtain ⟨m1, m2, m3, m4⟩ := h4.row q o r hq
      try dsimp only
      rw [if_neg (fun e' => e e'.symm)]
      refine ⟨?_, m2, m3, m4⟩
      cases r with
      | cells t cs => simp only [RowIs] at m1 ⊢; rw [ments_den hβ cs (mentR_get rows hno.2 hq)]; exact m1
      | blob Φ => exact m1
  · have hq : q < nx := hq
    try dsimp only
    split
    · exact h4.lt j k3
    · exact h4.lt q hq
  · rw [get_cons] at hq hp
    by_cases e : i = q
    · rw [if_neg (fun e' => hpq (e'.symm.trans e)), get_del] at hp
      split at hp
      · cases hp
      rename_i hpj
      try dsimp only
      rw [if_pos e.symm, if_neg (fun e' => hpq (e'.trans e))]
      exact h4.inj j p _ o r' hj hp hpj
    · rw [if_neg e, get_del] at hq
      split at hq
      · cases hq
      rename_i hqj
      have e' : ¬ q = i := fun e' => e e'.symm
      try dsimp only
      rw [if_neg e']
      by_cases e2 : i = p
      · rw [if_pos e2.symm]
        exact h4.inj q j r _ _ hq hj (fun e3 => hqj e3.symm)
      · rw [if_neg e2, get_del] at hp
        split at hp
        · cases hp
        have e4 : ¬ p = i := fun e' => e2 e'.symm
        rw [if_neg e4]
        exact h4.inj q p r o r' hq hp hpq
  · have hq : q < w0.n0 := hq
    try dsimp only
    rw [if_neg (by omega)]; exact h4.ext q hq
def noneB : List (Nat × Bool × SRow) → Nat → Bool
  | [], _ => true
  | (i, _) :: r, q => !Nat.beq i q && noneB r q
theorem noneB_get : ∀ (rows : List (Nat × Bool × SRow)) (q : Nat), noneB rows q = true → get rows q = none
  | [], _, _ => rfl
  | (i, x) :: r, q, h => by
    simp only [noneB, Bool.and_eq_true, Bool.not_eq_true'] at h
    rw [get_cons, if_neg (Nat.ne_of_beq_eq_false h.1)]
    exact noneB_get r q h.2
theorem back_own {C : Ctx} {I : Act → World → Prop} {fr : List (Nat × SV)} {rows : List (Nat × Bool × SRow)} {nx n : Nat} (s i : Nat) {j : Nat} {t : TypeId} {cs : List SV}
    (hsl : get fr s = some (.ptr j 0)) (hj : get rows j = some (true, .cells t cs)) (hb : (Nat.blt i nx && (!Nat.beq i j && (noneB rows i && (!mentF i fr && !mentR i rows)))) = true) (hn0 : C.w0.n0 ≤ i)
    (h : BackN C I ⟨(s, .ptr i 0) :: fr, (i, true, .cells t cs) :: del j rows, nx, n⟩) : BackN C I ⟨fr, rows, nx, n⟩ := by
  simp only [Bool.and_eq_true, Bool.not_eq_true'] at hb
  obtain ⟨b1, b2, b3, b4, b5⟩ := hb
  unfold BackN at h ⊢
  intro β a w hs
  exact h _ a w (hs.own s i j hsl hj (by simpa [Nat.blt_eq] using b1) (Nat.ne_of_beq_eq_false b2) hn0 (noneB_get _ _ b3) (by rw [b4, b5]; rfl))
end Sym
end Go.Proofs.YtfodbfbljeeojaaGreatDoor
