/- Fractions of the reference: sums, products, signs; equality of fractions. The law of operations: its helpers, and the law itself. Whole numbers as texts and fractions: the reference's Decimal, unsigned, Whole; the program's Of, Ratio. Whole numbers as fractions: the reference's unsigned, Whole; the program's Of, Ratio. Square roots of the program's numbers. Decimal numbers read: the reference's helpers. -/
import Derived.Test.YtfodbfbljeeojaaGreatDoorFGQ
import Derived.Test.YtfodbfbljeeojaaGreatDoorFGI
import Derived.Test.YtfodbfbljeeojaaGreatDoorFGO
set_option linter.unusedSimpArgs false
set_option linter.unusedVariables false
namespace Go.Proofs.YtfodbfbljeeojaaGreatDoor
open Go.RowKit
open Sym
attribute [local irreducible] Calls Sym.AggEq ExP.nd ExP.dig ExP.upd
set_option maxRecDepth 100000 in
set_option maxHeartbeats 4000000 in
theorem radd_any (x y : FrV) (w : World) (hw0 : 0 < w.heap.size) (hx : FrIn .i64 10 x w) (hy : FrIn .i64 10 y w)
    (hxn : ExP.nd 10 x.n ≤ 1000000) (hxd : ExP.nd 10 x.d ≤ 1000000) (hyn : ExP.nd 10 y.n ≤ 1000000) (hyd : ExP.nd 10 y.d ≤ 1000000) :
    Calls Tryz.prog 23 #[x.val 10, y.val 10] w (FrOut .i64 10 (ExP.sumN x.num y.num) w) := by
  obtain ⟨xm, xn, xd, xa, xc, xb, xe⟩ := x
  obtain ⟨ym, yn, yd, ya, yc, yb, ye⟩ := y
  obtain ⟨hx1, hx2, ⟨hx3, hx4, hx5, hx6⟩⟩ := hx
  obtain ⟨hy1, hy2, ⟨hy3, hy4, hy5, hy6⟩⟩ := hy
  dsimp only [FrV.num, FrV.val] at *
  have T1 := fun (w' : World) (h : Below w.heap.size w w') => rtimes_any xa yb xc ye xn yd w' (by omega) (by omega) (hx1.below h) (hy2.below h)
  have T2 := fun (w' : World) (h : Below w.heap.size w w') => rtimes_any ya xb yc xe yn xd w' (by omega) (by omega) (hy1.below h) (hx2.below h)
  have T3 := fun (w' : World) (h : Below w.heap.size w w') => rtimes_any xb yb xe ye xd yd w' (by omega) (by omega) (hx2.below h) (hy2.below h)
  have m1 := ExP.nd_mul (b := 10) (x := xn) (y := yd) (by omega)
  have m2 := ExP.nd_mul (b := 10) (x := yn) (y := xd) (by omega)
  have hge := ExP.cmpS_ge (x := xn * yd) (y := yn * xd)
  by_cases hm : xm = ym
  · have hS : ExP.sumN ⟨xm, xn, xd⟩ ⟨ym, yn, yd⟩ = ⟨xm, xn * yd + yn * xd, xd * yd⟩ := by simp [ExP.sumN, hm]
    rw [hS]
    obtain rfl : xm = ym := hm
    refine enter env_ok Tryz.func23 rfl Tryz.results23 Tryz.ntmps23 [] [200001, 100003, 100005, 100007] [.agg [.bool xm, .any (.slice xa (ExP.nd 10 xn) xc), .any (.slice xb (ExP.nd 10 xd) xe)], .agg [.bool xm, .any (.slice ya (ExP.nd 10 yn) yc), .any (.slice yb (ExP.nd 10 yd) ye)]] ⟨⟨trivial, rfl, rfl, trivial⟩, ⟨trivial, rfl, rfl, trivial⟩, trivial⟩ (Nat.le_of_ble_eq_true rfl) w _ 1000 ?_
    repeat' (first | ((with_reducible first | show wpS _ _ _ _ | show putD _ _ _ _ | show putW _ _ _ _ | show splitG _ _ _ | show wpQ _ _ _ _ _ _ | show wpD _ _ _ _ _ _ _ | show wpX _ _ _ _ _ _ _ | show expX _ _ _ _ _ _ | show stepX _ _ _ _ | show keepR _ _ _ | show wpY _ _ _ _); conv => whnf) | ((with_reducible show RetN _ _ _); refine retB fun β => ?_) | ((with_reducible show _ ∧ _); first | (apply And.intro; (· intro h; exfalso; first | omega | (revert h; decide)); intro _) | (apply And.intro; rotate_left; (· intro h; exfalso; first | omega | (revert h; decide)); intro _) | (refine ⟨fun _ => ?_, fun _ => ?_⟩) | (apply And.intro; · kernel_rfl) | (apply And.intro; · (show inK _ _; unfold inK; omega)) | (apply And.intro; · (show (_ : Int) ≤ 9223372036854775807; (try simp only [List.length_append, List.length_drop, List.length_take, List.length_cons, List.length_nil]); omega))) | ((with_reducible show AllBe _); refine allBe fun βe => ?_; conv => whnf) | ((with_reducible show bothX _ _); refine bothI ?_ ?_; conv => whnf) | (with_reducible exact trivial) | ((with_reducible show CallN _ _ _ _ _ _ _ _); refine call_of env_ok rfl 1000 ?_) | ((with_reducible show XopN _ _ _ _ _ _); refine xop_of env_ok rfl 1000 ?_) | ((with_reducible show CallX _ _ _ _ _ _); first | (refine callNat .i64 10 (xn * yd) hw0 (by kernel_rfl) rfl (fun β w' hm => T1 w' hm.below) (fun a1 c1 h1 h2 h3 => ?_)) | (refine callNat .i64 10 (yn * xd) hw0 (by kernel_rfl) rfl (fun β w' hm => T2 w' hm.below) (fun a2 c2 h4 h5 h6 => ?_)) | (refine callNat .i64 10 (xd * yd) hw0 (by kernel_rfl) rfl (fun β w' hm => T3 w' hm.below) (fun a3 c3 h7 h8 h9 => ?_)) | (refine callNat .i64 10 (xn * yd + yn * xd) hw0 (by kernel_rfl) rfl (fun β w' hm => rplus_any a1 a2 c1 c2 _ _ w' (by omega) (by omega) (by first | exact hm.slF 3 rfl | exact hm.slF 4 rfl) (by first | exact hm.slF 3 rfl | exact hm.slF 4 rfl)) (fun a4 c4 h10 h11 h12 => ?_))) | ((with_reducible show OpX _ _ _ _); first | fail) | ((with_reducible show ∃ _ : SV, _); first | (refine ⟨_, ?ok, x_eqBB xm xm true (fun _ => rfl) (fun _ => rfl) (by simp) Tryz.underlying4, ?_⟩; (case ok => exact fun _ _ => trivial))) | ((with_reducible show ∃ _, _); first | fail))
    all_goals first | (exfalso; simp_all; done) | (exfalso; omega) | skip
    all_goals refine ret fun β w' hm => ?_
    all_goals exact ⟨⟨_, _, _, a4, c4, a3, c3⟩, rfl, rfl, ⟨h10, h7, h11, h8⟩, Ls2 (by first | exact hm.slF 2 rfl | exact hm.slF 3 rfl | exact hm.slF 4 rfl | exact hm.slF 5 rfl | exact hm.slF 6 rfl | exact hm.slF 7 rfl | exact hm.slF 8 rfl | exact hm.slF 9 rfl) (by first | exact hm.freshF 2 rfl rfl | exact hm.freshF 3 rfl rfl | exact hm.freshF 4 rfl rfl | exact hm.freshF 5 rfl rfl | exact hm.freshF 6 rfl rfl | exact hm.freshF 7 rfl rfl | exact hm.freshF 8 rfl rfl | exact hm.freshF 9 rfl rfl) (by first | exact hm.slF 2 rfl | exact hm.slF 3 rfl | exact hm.slF 4 rfl | exact hm.slF 5 rfl | exact hm.slF 6 rfl | exact hm.slF 7 rfl | exact hm.slF 8 rfl | exact hm.slF 9 rfl) (by first | exact hm.freshF 2 rfl rfl | exact hm.freshF 3 rfl rfl | exact hm.freshF 4 rfl rfl | exact hm.freshF 5 rfl rfl | exact hm.freshF 6 rfl rfl | exact hm.freshF 7 rfl rfl | exact hm.freshF 8 rfl rfl | exact hm.freshF 9 rfl rfl), hm.below⟩
  · by_cases hle : yn * xd ≤ xn * yd
    · have hS : ExP.sumN ⟨xm, xn, xd⟩ ⟨ym, yn, yd⟩ = ⟨xm, xn * yd - yn * xd, xd * yd⟩ := by simp [ExP.sumN, hm, hle]
      rw [hS]
      have hc := hge.2 hle
      refine enter env_ok Tryz.func23 rfl Tryz.results23 Tryz.ntmps23 [] [200001, 100003, 100005, 100007] [.agg [.bool xm, .any (.slice xa (ExP.nd 10 xn) xc), .any (.slice xb (ExP.nd 10 xd) xe)], .agg [.bool ym, .any (.slice ya (ExP.nd 10 yn) yc), .any (.slice yb (ExP.nd 10 yd) ye)]] ⟨⟨trivial, rfl, rfl, trivial⟩, ⟨trivial, rfl, rfl, trivial⟩, trivial⟩ (Nat.le_of_ble_eq_true rfl) w _ 1000 ?_
      repeat' (first | ((with_reducible first | show wpS _ _ _ _ | show putD _ _ _ _ | show putW _ _ _ _ | show splitG _ _ _ | show wpQ _ _ _ _ _ _ | show wpD _ _ _ _ _ _ _ | show wpX _ _ _ _ _ _ _ | show expX _ _ _ _ _ _ | show stepX _ _ _ _ | show keepR _ _ _ | show wpY _ _ _ _); conv => whnf) | ((with_reducible show RetN _ _ _); refine retB fun β => ?_) | ((with_reducible show _ ∧ _); first | (apply And.intro; (· intro h; exfalso; first | omega | (revert h; decide)); intro _) | (apply And.intro; rotate_left; (· intro h; exfalso; first | omega | (revert h; decide)); intro _) | (refine ⟨fun _ => ?_, fun _ => ?_⟩) | (apply And.intro; · kernel_rfl) | (apply And.intro; · (show inK _ _; unfold inK; omega)) | (apply And.intro; · (show (_ : Int) ≤ 9223372036854775807; (try simp only [List.length_append, List.length_drop, List.length_take, List.length_cons, List.length_nil]); omega))) | ((with_reducible show AllBe _); refine allBe fun βe => ?_; conv => whnf) | ((with_reducible show bothX _ _); refine bothI ?_ ?_; conv => whnf) | (with_reducible exact trivial) | ((with_reducible show CallN _ _ _ _ _ _ _ _); refine call_of env_ok rfl 1000 ?_) | ((with_reducible show XopN _ _ _ _ _ _); refine xop_of env_ok rfl 1000 ?_) | ((with_reducible show CallX _ _ _ _ _ _); first | (refine callNat .i64 10 (xn * yd) hw0 (by kernel_rfl) rfl (fun β w' hm => T1 w' hm.below) (fun a1 c1 h1 h2 h3 => ?_)) | (refine callNat .i64 10 (yn * xd) hw0 (by kernel_rfl) rfl (fun β w' hm => T2 w' hm.below) (fun a2 c2 h4 h5 h6 => ?_)) | (refine callNat .i64 10 (xd * yd) hw0 (by kernel_rfl) rfl (fun β w' hm => T3 w' hm.below) (fun a3 c3 h7 h8 h9 => ?_)) | (refine callX (.int .i64 (ExP.cmpS (xn * yd) (yn * xd))) (by kernel_rfl) rfl trivial (fun β w' hm => rcompare_any a1 a2 c1 c2 _ _ w' (by omega) (by omega) (by first | exact hm.slF 3 rfl | exact hm.slF 4 rfl) (by first | exact hm.slF 3 rfl | exact hm.slF 4 rfl)) ?_) | (refine callNat .i64 10 (xn * yd - yn * xd) hw0 (by kernel_rfl) rfl (fun β w' hm => rless_any a1 a2 c1 c2 _ _ w' (by omega) (by omega) hle (by first | exact hm.slF 3 rfl | exact hm.slF 4 rfl) (by first | exact hm.slF 3 rfl | exact hm.slF 4 rfl)) (fun a4 c4 h10 h11 h12 => ?_))) | ((with_reducible show OpX _ _ _ _); first | fail) | ((with_reducible show ∃ _ : SV, _); first | (refine ⟨_, ?ok, x_eqBB xm ym false (fun _ => rfl) (fun _ => rfl) (by simpa using hm) Tryz.underlying4, ?_⟩; (case ok => exact fun _ _ => trivial))) | ((with_reducible show ∃ _, _); first | fail))
      all_goals first | (exfalso; simp_all; done) | (exfalso; omega) | skip
      all_goals refine ret fun β w' hm => ?_
      all_goals exact ⟨⟨_, _, _, a4, c4, a3, c3⟩, rfl, rfl, ⟨h10, h7, h11, h8⟩, Ls2 (by first | exact hm.slF 2 rfl | exact hm.slF 3 rfl | exact hm.slF 4 rfl | exact hm.slF 5 rfl | exact hm.slF 6 rfl | exact hm.slF 7 rfl | exact hm.slF 8 rfl | exact hm.slF 9 rfl) (by first | exact hm.freshF 2 rfl rfl | exact hm.freshF 3 rfl rfl | exact hm.freshF 4 rfl rfl | exact hm.freshF 5 rfl rfl | exact hm.freshF 6 rfl rfl | exact hm.freshF 7 rfl rfl | exact hm.freshF 8 rfl rfl | exact hm.freshF 9 rfl rfl) (by first | exact hm.slF 2 rfl | exact hm.slF 3 rfl | exact hm.slF 4 rfl | exact hm.slF 5 rfl | exact hm.slF 6 rfl | exact hm.slF 7 rfl | exact hm.slF 8 rfl | exact hm.slF 9 rfl) (by first | exact hm.freshF 2 rfl rfl | exact hm.freshF 3 rfl rfl | exact hm.freshF 4 rfl rfl | exact hm.freshF 5 rfl rfl | exact hm.freshF 6 rfl rfl | exact hm.freshF 7 rfl rfl | exact hm.freshF 8 rfl rfl | exact hm.freshF 9 rfl rfl), hm.below⟩
    · have hS : ExP.sumN ⟨xm, xn, xd⟩ ⟨ym, yn, yd⟩ = ⟨ym, yn * xd - xn * yd, xd * yd⟩ := by simp [ExP.sumN, hm, hle]
      rw [hS]
      have hc := fun h => hle (hge.1 h)
      refine enter env_ok Tryz.func23 rfl Tryz.results23 Tryz.ntmps23 [] [200001, 100003, 100005, 100007] [.agg [.bool xm, .any (.slice xa (ExP.nd 10 xn) xc), .any (.slice xb (ExP.nd 10 xd) xe)], .agg [.bool ym, .any (.slice ya (ExP.nd 10 yn) yc), .any (.slice yb (ExP.nd 10 yd) ye)]] ⟨⟨trivial, rfl, rfl, trivial⟩, ⟨trivial, rfl, rfl, trivial⟩, trivial⟩ (Nat.le_of_ble_eq_true rfl) w _ 1000 ?_
      repeat' (first | ((with_reducible first | show wpS _ _ _ _ | show putD _ _ _ _ | show putW _ _ _ _ | show splitG _ _ _ | show wpQ _ _ _ _ _ _ | show wpD _ _ _ _ _ _ _ | show wpX _ _ _ _ _ _ _ | show expX _ _ _ _ _ _ | show stepX _ _ _ _ | show keepR _ _ _ | show wpY _ _ _ _); conv => whnf) | ((with_reducible show RetN _ _ _); refine retB fun β => ?_) | ((with_reducible show _ ∧ _); first | (apply And.intro; (· intro h; exfalso; first | omega | (revert h; decide)); intro _) | (apply And.intro; rotate_left; (· intro h; exfalso; first | omega | (revert h; decide)); intro _) | (refine ⟨fun _ => ?_, fun _ => ?_⟩) | (apply And.intro; · kernel_rfl) | (apply And.intro; · (show inK _ _; unfold inK; omega)) | (apply And.intro; · (show (_ : Int) ≤ 9223372036854775807; (try simp only [List.length_append, List.length_drop, List.length_take, List.length_cons, List.length_nil]); omega))) | ((with_reducible show AllBe _); refine allBe fun βe => ?_; conv => whnf) | ((with_reducible show bothX _ _); refine bothI ?_ ?_; conv => whnf) | (with_reducible exact trivial) | ((with_reducible show CallN _ _ _ _ _ _ _ _); refine call_of env_ok rfl 1000 ?_) | ((with_reducible show XopN _ _ _ _ _ _); refine xop_of env_ok rfl 1000 ?_) | ((with_reducible show CallX _ _ _ _ _ _); first | (refine callNat .i64 10 (xn * yd) hw0 (by kernel_rfl) rfl (fun β w' hm => T1 w' hm.below) (fun a1 c1 h1 h2 h3 => ?_)) | (refine callNat .i64 10 (yn * xd) hw0 (by kernel_rfl) rfl (fun β w' hm => T2 w' hm.below) (fun a2 c2 h4 h5 h6 => ?_)) | (refine callNat .i64 10 (xd * yd) hw0 (by kernel_rfl) rfl (fun β w' hm => T3 w' hm.below) (fun a3 c3 h7 h8 h9 => ?_)) | (refine callX (.int .i64 (ExP.cmpS (xn * yd) (yn * xd))) (by kernel_rfl) rfl trivial (fun β w' hm => rcompare_any a1 a2 c1 c2 _ _ w' (by omega) (by omega) (by first | exact hm.slF 3 rfl | exact hm.slF 4 rfl) (by first | exact hm.slF 3 rfl | exact hm.slF 4 rfl)) ?_) | (refine callNat .i64 10 (yn * xd - xn * yd) hw0 (by kernel_rfl) rfl (fun β w' hm => rless_any a2 a1 c2 c1 _ _ w' (by omega) (by omega) (by omega) (by first | exact hm.slF 3 rfl | exact hm.slF 4 rfl) (by first | exact hm.slF 3 rfl | exact hm.slF 4 rfl)) (fun a4 c4 h10 h11 h12 => ?_))) | ((with_reducible show OpX _ _ _ _); first | fail) | ((with_reducible show ∃ _ : SV, _); first | (refine ⟨_, ?ok, x_eqBB xm ym false (fun _ => rfl) (fun _ => rfl) (by simpa using hm) Tryz.underlying4, ?_⟩; (case ok => exact fun _ _ => trivial))) | ((with_reducible show ∃ _, _); first | fail))
      all_goals first | (exfalso; simp_all; done) | (exfalso; omega) | skip
      all_goals refine ret fun β w' hm => ?_
      all_goals exact ⟨⟨_, _, _, a4, c4, a3, c3⟩, rfl, rfl, ⟨h10, h7, h11, h8⟩, Ls2 (by first | exact hm.slF 2 rfl | exact hm.slF 3 rfl | exact hm.slF 4 rfl | exact hm.slF 5 rfl | exact hm.slF 6 rfl | exact hm.slF 7 rfl | exact hm.slF 8 rfl | exact hm.slF 9 rfl) (by first | exact hm.freshF 2 rfl rfl | exact hm.freshF 3 rfl rfl | exact hm.freshF 4 rfl rfl | exact hm.freshF 5 rfl rfl | exact hm.freshF 6 rfl rfl | exact hm.freshF 7 rfl rfl | exact hm.freshF 8 rfl rfl | exact hm.freshF 9 rfl rfl) (by first | exact hm.slF 2 rfl | exact hm.slF 3 rfl | exact hm.slF 4 rfl | exact hm.slF 5 rfl | exact hm.slF 6 rfl | exact hm.slF 7 rfl | exact hm.slF 8 rfl | exact hm.slF 9 rfl) (by first | exact hm.freshF 2 rfl rfl | exact hm.freshF 3 rfl rfl | exact hm.freshF 4 rfl rfl | exact hm.freshF 5 rfl rfl | exact hm.freshF 6 rfl rfl | exact hm.freshF 7 rfl rfl | exact hm.freshF 8 rfl rfl | exact hm.freshF 9 rfl rfl), hm.below⟩
set_option maxRecDepth 100000 in
theorem rneg_any (m : Bool) (a b : Option Addr) (n c d e : Nat) (w : World) :
    Calls Tryz.prog 24 #[.agg #[.bool m, .slice a n c, .slice b d e]] w fun E w' => E = .returned (.agg #[.bool !m, .slice a n c, .slice b d e]) ∧ Below w.heap.size w w' := by
  refine enter env_ok Tryz.func24 rfl Tryz.results24 Tryz.ntmps24 [] [] [.agg [.bool m, .any (.slice a n c), .any (.slice b d e)]] ⟨⟨trivial, rfl, rfl, trivial⟩, trivial⟩ (Nat.le_of_ble_eq_true rfl) w _ 1000 ?_
  repeat' (first | ((with_reducible first | show wpS _ _ _ _ | show putD _ _ _ _ | show putW _ _ _ _ | show splitG _ _ _ | show wpQ _ _ _ _ _ _ | show wpD _ _ _ _ _ _ _ | show wpX _ _ _ _ _ _ _ | show expX _ _ _ _ _ _ | show stepX _ _ _ _ | show keepR _ _ _ | show wpY _ _ _ _); conv => whnf) | ((with_reducible show RetN _ _ _); refine retB fun β => ?_) | ((with_reducible show _ ∧ _); first | (apply And.intro; (· intro h; exfalso; first | omega | (revert h; decide)); intro _) | (apply And.intro; rotate_left; (· intro h; exfalso; first | omega | (revert h; decide)); intro _) | (refine ⟨fun _ => ?_, fun _ => ?_⟩) | (apply And.intro; · kernel_rfl) | (apply And.intro; · (show inK _ _; unfold inK; omega)) | (apply And.intro; · (show (_ : Int) ≤ 9223372036854775807; (try simp only [List.length_append, List.length_drop, List.length_take, List.length_cons, List.length_nil]); omega))) | ((with_reducible show AllBe _); refine allBe fun βe => ?_; conv => whnf) | ((with_reducible show bothX _ _); refine bothI ?_ ?_; conv => whnf) | (with_reducible exact trivial) | ((with_reducible show CallN _ _ _ _ _ _ _ _); refine call_of env_ok rfl 1000 ?_) | ((with_reducible show XopN _ _ _ _ _ _); refine xop_of env_ok rfl 1000 ?_) | ((with_reducible show CallX _ _ _ _ _ _); first | fail) | ((with_reducible show OpX _ _ _ _); first | fail) | ((with_reducible show ∃ _ : SV, _); first | fail) | ((with_reducible show ∃ _, _); first | fail))
  all_goals rfl
theorem ExP.nd_z {b x : Nat} (hb : 2 ≤ b) : ((ExP.nd b x : Int) = 0) = (x = 0) := by
  have := ExP.nd_pos (b := b) (x := x) hb
  apply propext
  constructor <;> intro h <;> omega
set_option maxRecDepth 100000 in
theorem rsign_any (m : Bool) (a b : Option Addr) (x c d e : Nat) (w : World) :
    Calls Tryz.prog 19 #[.agg #[.bool m, .slice a (ExP.nd 10 x) c, .slice b d e]] w fun E w' => E = .returned (.int .i64 (if x = 0 then 0 else if m = true then -1 else 1)) ∧ Below w.heap.size w w' := by
  have hz := ExP.nd_z (b := 10) (x := x) (by omega)
  refine enter env_ok Tryz.func19 rfl Tryz.results19 Tryz.ntmps19 [] [] [.agg [.bool m, .any (.slice a (ExP.nd 10 x) c), .any (.slice b d e)]] ⟨⟨trivial, rfl, rfl, trivial⟩, trivial⟩ (Nat.le_of_ble_eq_true rfl) w _ 1000 ?_
  repeat' (first | ((with_reducible first | show wpS _ _ _ _ | show putD _ _ _ _ | show putW _ _ _ _ | show splitG _ _ _ | show wpQ _ _ _ _ _ _ | show wpD _ _ _ _ _ _ _ | show wpX _ _ _ _ _ _ _ | show expX _ _ _ _ _ _ | show stepX _ _ _ _ | show keepR _ _ _ | show wpY _ _ _ _); conv => whnf) | ((with_reducible show RetN _ _ _); refine retB fun β => ?_) | ((with_reducible show _ ∧ _); first | (apply And.intro; (· intro h; exfalso; first | omega | (revert h; decide)); intro _) | (apply And.intro; rotate_left; (· intro h; exfalso; first | omega | (revert h; decide)); intro _) | (refine ⟨fun _ => ?_, fun _ => ?_⟩) | (apply And.intro; · kernel_rfl) | (apply And.intro; · (show inK _ _; unfold inK; omega)) | (apply And.intro; · (show (_ : Int) ≤ 9223372036854775807; (try simp only [List.length_append, List.length_drop, List.length_take, List.length_cons, List.length_nil]); omega))) | ((with_reducible show AllBe _); refine allBe fun βe => ?_; conv => whnf) | ((with_reducible show bothX _ _); refine bothI ?_ ?_; conv => whnf) | (with_reducible exact trivial) | ((with_reducible show CallN _ _ _ _ _ _ _ _); refine call_of env_ok rfl 1000 ?_) | ((with_reducible show XopN _ _ _ _ _ _); refine xop_of env_ok rfl 1000 ?_) | ((with_reducible show CallX _ _ _ _ _ _); first | fail) | ((with_reducible show OpX _ _ _ _); first | fail) | ((with_reducible show ∃ _ : SV, _); first | (refine ⟨_, ?ok, x_len Tryz.underlying34, ?_⟩; (case ok => exact fun _ _ => trivial))) | ((with_reducible show ∃ _, _); first | fail))
  all_goals simp_all [SV.den]
end Go.Proofs.YtfodbfbljeeojaaGreatDoor
namespace Go.Proofs.YtfodbfbljeeojaaGreatDoor
open Go.RowKit
open Sym
attribute [local irreducible] Calls Sym.AggEq ExP.nd ExP.dig ExP.upd
set_option maxRecDepth 100000 in
theorem flatFrac : Flat Tryz.prog (Tryz.prog.fieldsOf 23).toList [.str, .str] 0 := flat_of _ _ _ (by kernel_rfl)
set_option maxRecDepth 100000 in
theorem frac_eq (a b c d : List UInt8) (w : World) : (Op.equalIn 10000 23 (.agg #[.string (bstr a), .string (bstr b)]) (.agg #[.string (bstr c), .string (bstr d)])).run Tryz.prog w = .ok (a == c && b == d) w := by
  rw [agg_eq w 23 _ _ _ (by kernel_rfl) (by kernel_rfl) flatFrac rfl rfl]
  simp [ceqs, ceq, bstr_list]
section
attribute [local semireducible] Sym.AggEq
set_option maxRecDepth 100000 in
theorem fracAgg (a b c d : List UInt8) : AggEq Tryz.prog 23 [.str a, .str b] [.str c, .str d] (a == c && b == d) := ⟨by kernel_rfl, fun _ w => frac_eq a b c d w⟩
theorem fracAggT (a b : List UInt8) : AggEq Tryz.prog 23 [.str a, .str b] [.str a, .str b] true := by
  have := fracAgg a b a b
  simpa using this
end
set_option maxRecDepth 100000 in
set_option maxHeartbeats 4000000 in
theorem lfrac_any (F : ExP.Fr) (E : Int) (x : FrV) (w : World) (hw0 : 0 < w.heap.size) (hx : FrIn .i64 10 x w) (hd : 0 < x.d)
    (hxn : ExP.nd 10 x.n ≤ 1000000) (hxd : ExP.nd 10 x.d ≤ 1000000) (hF : F = ExP.writeF x.num) (hE : E = ExP.writeE x.num) :
    Calls Tryz.prog 20 #[frV F, .int .i64 E, x.val 10] w fun e w' => e = .returned (.bool true) ∧ Below w.heap.size w w' := by
  have W1 := fun (w' : World) (h : Below w.heap.size w w') => rfrac_any x w' (Nat.lt_of_lt_of_le hw0 h.size) (hx.below h) hd hxn hxd
  rw [← hF, ← hE] at W1
  clear hF hE
  obtain ⟨xm, xn, xd, xa, xc, xb, xe⟩ := x
  obtain ⟨F1, F2⟩ := F
  dsimp only [FrV.num, FrV.val] at *
  refine enter env_ok Tryz.func20 rfl Tryz.results20 Tryz.ntmps20 [] [] [.agg [.str F1, .str F2], .int .i64 E, .agg [.bool xm, .any (.slice xa (ExP.nd 10 xn) xc), .any (.slice xb (ExP.nd 10 xd) xe)]] ⟨⟨trivial, trivial, trivial⟩, trivial, ⟨trivial, rfl, rfl, trivial⟩, trivial⟩ (Nat.le_of_ble_eq_true rfl) w _ 1000 ?_
  repeat' (first | ((with_reducible first | show wpS _ _ _ _ | show putD _ _ _ _ | show putW _ _ _ _ | show splitG _ _ _ | show wpQ _ _ _ _ _ _ | show wpD _ _ _ _ _ _ _ | show wpX _ _ _ _ _ _ _ | show expX _ _ _ _ _ _ | show stepX _ _ _ _ | show keepR _ _ _ | show wpY _ _ _ _); conv => whnf) | ((with_reducible show RetN _ _ _); refine retB fun β => ?_) | ((with_reducible show _ ∧ _); first | (apply And.intro; (· intro h; exfalso; first | omega | (revert h; decide)); intro _) | (apply And.intro; rotate_left; (· intro h; exfalso; first | omega | (revert h; decide)); intro _) | (refine ⟨fun _ => ?_, fun _ => ?_⟩) | (apply And.intro; · kernel_rfl) | (apply And.intro; · (show inK _ _; unfold inK; omega)) | (apply And.intro; · (show (_ : Int) ≤ 9223372036854775807; (try simp only [List.length_append, List.length_drop, List.length_take, List.length_cons, List.length_nil]); omega))) | ((with_reducible show AllBe _); refine allBe fun βe => ?_; conv => whnf) | ((with_reducible show bothX _ _); refine bothI ?_ ?_; conv => whnf) | (with_reducible exact trivial) | ((with_reducible show CallN _ _ _ _ _ _ _ _); refine call_of env_ok rfl 1000 ?_) | ((with_reducible show XopN _ _ _ _ _ _); refine xop_of env_ok rfl 1000 ?_) | ((with_reducible show CallX _ _ _ _ _ _); first | (refine callX (.tup [.agg [.str F1, .str F2], .int .i64 E]) (by kernel_rfl) rfl (⟨⟨trivial, trivial, trivial⟩, trivial, trivial⟩) (fun β w hm => W1 w hm.below) ?_)) | ((with_reducible show OpX _ _ _ _); first | fail) | ((with_reducible show ∃ _ : SV, _); first | fail) | ((with_reducible show ∃ _, _); first | (refine ⟨true, fracAggT F1 F2, ?_⟩)))
  all_goals first | rfl | (exfalso; simp_all; done) | (simp [SV.den]; done) | skip
set_option maxRecDepth 100000 in
set_option maxHeartbeats 4000000 in
theorem fractions_any (w : World) (hw : XW w) (hw0 : 0 < w.heap.size) : Calls Tryz.prog 8 #[] w fun e w' => e = .returned (.bool true) ∧ Below w.heap.size w w' := by
  have A1 := fun (w' : World) (h : Below w.heap.size w w') => add_any ([49], [54]) ([49], [49, 48]) w' (hw.below h) (Nat.lt_of_lt_of_le hw0 h.size) (by simp) (by simp) (by simp) (by simp)
  rw [show ExP.twoF ([49], [54]) ([49], [49, 48]) (ExP.sumN (ExP.readN ([49], [54])) (ExP.readN ([49], [49, 48]))) 0 = ([52], [49, 53]) from by decide +kernel, show ExP.twoE ([49], [54]) ([49], [49, 48]) (ExP.sumN (ExP.readN ([49], [54])) (ExP.readN ([49], [49, 48]))) 0 = 0 from by decide +kernel] at A1
  refine enter env_ok Tryz.func8 rfl Tryz.results8 Tryz.ntmps8 [] [] [] (by simp [SV.oks, SV.ok]) (Nat.le_of_ble_eq_true rfl) w _ 1000 ?_
  repeat' (first | ((with_reducible first | show wpS _ _ _ _ | show putD _ _ _ _ | show putW _ _ _ _ | show splitG _ _ _ | show wpQ _ _ _ _ _ _ | show wpD _ _ _ _ _ _ _ | show wpX _ _ _ _ _ _ _ | show expX _ _ _ _ _ _ | show stepX _ _ _ _ | show keepR _ _ _ | show wpY _ _ _ _); conv => whnf) | ((with_reducible show RetN _ _ _); refine retB fun β => ?_) | ((with_reducible show _ ∧ _); first | (apply And.intro; (· intro h; exfalso; first | omega | (revert h; decide)); intro _) | (apply And.intro; rotate_left; (· intro h; exfalso; first | omega | (revert h; decide)); intro _) | (refine ⟨fun _ => ?_, fun _ => ?_⟩) | (apply And.intro; · kernel_rfl) | (apply And.intro; · (show inK _ _; unfold inK; omega)) | (apply And.intro; · (show (_ : Int) ≤ 9223372036854775807; (try simp only [List.length_append, List.length_drop, List.length_take, List.length_cons, List.length_nil]); omega))) | ((with_reducible show AllBe _); refine allBe fun βe => ?_; conv => whnf) | ((with_reducible show bothX _ _); refine bothI ?_ ?_; conv => whnf) | (with_reducible exact trivial) | ((with_reducible show CallN _ _ _ _ _ _ _ _); refine call_of env_ok rfl 1000 ?_) | ((with_reducible show XopN _ _ _ _ _ _); refine xop_of env_ok rfl 1000 ?_) | ((with_reducible show CallX _ _ _ _ _ _); first | (refine callX (.tup [.agg [.str [52], .str [49, 53]], .int .i64 0]) (by kernel_rfl) rfl (⟨⟨trivial, trivial, trivial⟩, trivial, trivial⟩) (fun β w hm => A1 w hm.below) ?_)) | ((with_reducible show OpX _ _ _ _); first | fail) | ((with_reducible show ∃ _ : SV, _); first | fail) | ((with_reducible show ∃ _, _); first | (refine ⟨true, fracAggT _ _, ?_⟩)))
  all_goals first | rfl | (exfalso; simp_all; done) | skip
end Go.Proofs.YtfodbfbljeeojaaGreatDoor
namespace Go.Proofs.YtfodbfbljeeojaaGreatDoor
open Go.RowKit
open Sym
attribute [local irreducible] Calls Sym.AggEq ExP.nd ExP.dig ExP.upd
theorem digit_byte (k : Nat) (h : k < 10) {v : Int} (hv : v = 48 + (k : Int)) : [Value.int .u8 v] = bvals [UInt8.ofNat (48 + k)] := by
  have : (UInt8.ofNat (48 + k)).toNat = 48 + k := by simp; omega
  subst hv
  simp [bvals, this]
  omega
theorem dec_le (x : Nat) (h : x < 100000000000000000000) : (Lib.decDigits x).length ≤ 20 := by
  rcases Nat.eq_zero_or_pos x with rfl | h0
  · rw [Lib.decDigits_one (by omega)]; simp
  · rw [ExP.nd_dec h0]; exact ExP.nd_le (by omega) (by simpa using h)
set_option maxRecDepth 100000 in
set_option maxHeartbeats 2000000 in
theorem decimal_pos (n : Nat) : n < 9223372036854775808 → ∀ w, Calls Tryz.prog 71 #[.int .i64 (n : Int)] w fun e w' => e = .returned (.string (bstr (Lib.decDigits n))) ∧ Below w.heap.size w w' := by
  induction n using Nat.strongRecOn with
  | _ n ih =>
  intro hn w
  by_cases h : n < 10
  · rw [Lib.decDigits_one h]
    refine enter env_ok Tryz.func71 rfl Tryz.results71 Tryz.ntmps71 [] [] [.int .i64 (n : Int)] (by simp [SV.oks, SV.ok]) (Nat.le_of_ble_eq_true rfl) w _ 1000 ?_
    repeat' (first | ((with_reducible first | show wpS _ _ _ _ | show putD _ _ _ _ | show putW _ _ _ _ | show splitG _ _ _ | show wpQ _ _ _ _ _ _ | show wpD _ _ _ _ _ _ _ | show wpX _ _ _ _ _ _ _ | show expX _ _ _ _ _ _ | show stepX _ _ _ _ | show keepR _ _ _ | show wpY _ _ _ _); conv => whnf) | ((with_reducible show RetN _ _ _); refine retB fun β => ?_) | ((with_reducible show _ ∧ _); first | (apply And.intro; (· intro h; exfalso; first | omega | (revert h; decide)); intro _) | (apply And.intro; rotate_left; (· intro h; exfalso; first | omega | (revert h; decide)); intro _) | (refine ⟨fun _ => ?_, fun _ => ?_⟩) | (apply And.intro; · kernel_rfl) | (apply And.intro; · (show inK _ _; unfold inK; omega)) | (apply And.intro; · (show (_ : Int) ≤ 9223372036854775807; (try simp only [List.length_append, List.length_drop, List.length_take, List.length_cons, List.length_nil]); omega))) | ((with_reducible show AllBe _); refine allBe fun βe => ?_; conv => whnf) | ((with_reducible show bothX _ _); refine bothI ?_ ?_; conv => whnf) | (with_reducible exact trivial) | ((with_reducible show CallN _ _ _ _ _ _ _ _); refine call_of env_ok rfl 1000 ?_) | ((with_reducible show XopN _ _ _ _ _ _); refine xop_of env_ok rfl 1000 ?_) | ((with_reducible show CallX _ _ _ _ _ _); first | fail) | ((with_reducible show OpX _ _ _ _); first | (refine opx_one rfl rfl Tryz.underlying110 (fun w => Tryz.sizeOf5 w) (fun w => Tryz.zeroValue5 w) rfl (fun g => ?_))) | ((with_reducible show ∃ _ : SV, _); first | (refine ⟨_, ?ok, x_bytesStr 0 [UInt8.ofNat (48 + n)] Tryz.underlying110 Tryz.underlying5 Tryz.underlying9 rfl (digit_byte n h rfl), ?_⟩; (case ok => exact fun _ _ => trivial))) | ((with_reducible show ∃ _, _); first | fail))
    all_goals first | rfl | (exfalso; omega)
  · have hD : Lib.decDigits n = Lib.decDigits (n / 10) ++ [UInt8.ofNat (48 + n % 10)] := by rw [Lib.decDigits, dif_neg h]
    have HI := ih (n / 10) (by omega) (by omega)
    have hL := dec_le (n / 10) (by omega)
    have hq : (n : Int) / 10 = ((n / 10 : Nat) : Int) := by omega
    have hr : (n : Int) % 10 = ((n % 10 : Nat) : Int) := by omega
    have hm := fun v => digit_byte (n % 10) (by omega) (v := v)
    rw [hD]
    clear ih hD
    generalize Lib.decDigits (n / 10) = L at *
    refine enter env_ok Tryz.func71 rfl Tryz.results71 Tryz.ntmps71 [] [] [.int .i64 (n : Int)] (by simp [SV.oks, SV.ok]) (Nat.le_of_ble_eq_true rfl) w _ 1000 ?_
    repeat' (first | ((with_reducible first | show wpS _ _ _ _ | show putD _ _ _ _ | show putW _ _ _ _ | show splitG _ _ _ | show wpQ _ _ _ _ _ _ | show wpD _ _ _ _ _ _ _ | show wpX _ _ _ _ _ _ _ | show expX _ _ _ _ _ _ | show stepX _ _ _ _ | show keepR _ _ _ | show wpY _ _ _ _); conv => whnf) | ((with_reducible show RetN _ _ _); refine retB fun β => ?_) | ((with_reducible show _ ∧ _); first | (apply And.intro; (· intro h; exfalso; first | omega | (revert h; decide)); intro _) | (apply And.intro; rotate_left; (· intro h; exfalso; first | omega | (revert h; decide)); intro _) | (refine ⟨fun _ => ?_, fun _ => ?_⟩) | (apply And.intro; · kernel_rfl) | (apply And.intro; · (show inK _ _; unfold inK; omega)) | (apply And.intro; · (show (_ : Int) ≤ 9223372036854775807; (try simp only [List.length_append, List.length_drop, List.length_take, List.length_cons, List.length_nil]); omega))) | ((with_reducible show AllBe _); refine allBe fun βe => ?_; conv => whnf) | ((with_reducible show bothX _ _); refine bothI ?_ ?_; conv => whnf) | (with_reducible exact trivial) | ((with_reducible show CallN _ _ _ _ _ _ _ _); refine call_of env_ok rfl 1000 ?_) | ((with_reducible show XopN _ _ _ _ _ _); refine xop_of env_ok rfl 1000 ?_) | ((with_reducible show CallX _ _ _ _ _ _); first | (refine callX (.str L) (by kernel_rfl) rfl (trivial) (fun β w hm => by simp only [SV.dens, SV.den]; rw [hq]; exact HI w) ?_)) | ((with_reducible show OpX _ _ _ _); first | (refine opx_one rfl rfl Tryz.underlying110 (fun w => Tryz.sizeOf5 w) (fun w => Tryz.zeroValue5 w) rfl (fun g => ?_))) | ((with_reducible show ∃ _ : SV, _); first | (refine ⟨_, ?ok, x_bytesStr 0 [UInt8.ofNat (48 + n % 10)] Tryz.underlying110 Tryz.underlying5 Tryz.underlying9 rfl (hm _ (by rw [hr])), ?_⟩; (case ok => exact fun _ _ => trivial)) | (refine ⟨_, ?ok, x_quo (by omega) (by omega) (by unfold inK; omega), ?_⟩; (case ok => exact fun _ _ => trivial)) | (refine ⟨_, ?ok, x_rem (by omega) (by omega), ?_⟩; (case ok => exact fun _ _ => trivial))) | ((with_reducible show ∃ _, _); first | fail))
    all_goals rfl
end Go.Proofs.YtfodbfbljeeojaaGreatDoor
namespace Go.Proofs.YtfodbfbljeeojaaGreatDoor
open Go.RowKit
open Sym
attribute [local irreducible] Calls Sym.AggEq ExP.nd ExP.dig ExP.upd
theorem ExP.nd_one {b : Nat} (hb : 2 ≤ b) : ExP.nd b 1 = 1 := by
  have h1 := ExP.nd_le (b := b) (x := 1) (n := 1) hb (by rw [Nat.pow_one]; omega)
  have h2 := (ExP.nd_pos (b := b) (x := 1) hb).2 (by omega)
  omega
theorem nv_one {k : IntKind} {b : Nat} (hb : 2 ≤ b) : nv k b 1 = [.int k 1] := by
  unfold nv ExP.dg
  rw [ExP.nd_one hb, ExP.dig_self (by omega)]
  rfl
end Go.Proofs.YtfodbfbljeeojaaGreatDoor
namespace Go.Proofs.YtfodbfbljeeojaaGreatDoor
open Go.RowKit
open Sym
attribute [local irreducible] Calls Sym.AggEq ExP.nd ExP.dig ExP.upd
theorem ExP.nd_add {b x y m : Nat} (hb : 2 ≤ b) (h1 : ExP.nd b x ≤ m) (h2 : ExP.nd b y ≤ m) : ExP.nd b (x + y) ≤ m + 1 := by
  refine ExP.nd_le hb ?_
  have a1 := ExP.lt_pow_mono (by omega) (ExP.nd_lt hb x) h1
  have a2 := ExP.lt_pow_mono (by omega) (ExP.nd_lt hb y) h2
  have : b ^ m * 2 ≤ b ^ m * b := Nat.mul_le_mul_left _ hb
  rw [Nat.pow_succ]
  omega
structure RtT where
  x : Nat
  a : Option Addr
  c : Nat
structure RtI (X : Nat) (t : RtT) : Prop where
  sq : ExP.SqI X t.x
  pos : 0 < t.x
  nd : ExP.nd 1000000000 t.x ≤ 100000
  an : t.a = none → t.c = 0
  cn : ExP.nd 1000000000 t.x ≤ t.c
end Go.Proofs.YtfodbfbljeeojaaGreatDoor
namespace Go.Proofs.YtfodbfbljeeojaaGreatDoor
open Go.RowKit
open Sym
attribute [local irreducible] Calls Sym.AggEq ExP.nd ExP.dig ExP.upd
theorem ExP.valF_take (s : List UInt8) (n : Nat) (h : n < s.length) : ExP.valS (s.take (n + 1)) = 10 * ExP.valS (s.take n) + ((s.getD n 0).toNat - 48) := by
  have e : s.take (n + 1) = s.take n ++ [s.getD n 0] := by
    rw [List.take_add_one, List.getD_eq_getElem?_getD, List.getElem?_eq_getElem h]; rfl
  rw [e, ExP.val_snoc, Nat.mul_comm]
end Go.Proofs.YtfodbfbljeeojaaGreatDoor
