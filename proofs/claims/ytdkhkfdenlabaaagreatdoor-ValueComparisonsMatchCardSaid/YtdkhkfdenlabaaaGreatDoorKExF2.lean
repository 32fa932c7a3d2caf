/- Fractions of the program: the functions within Add, Sub, Mul and Div. -/
import Derived.Test.YtdkhkfdenlabaaaGreatDoorKGL
set_option linter.unusedSimpArgs false
set_option linter.unusedVariables false
namespace Go.Proofs.YtdkhkfdenlabaaaGreatDoor
open Go.RowKit
open Sym
attribute [local irreducible] Calls Sym.AggEq ExP.nd ExP.dig ExP.upd
set_option maxRecDepth 100000 in
set_option maxHeartbeats 4000000 in
theorem div1_any (x y : FrV) (w : World) (hw0 : 0 < w.heap.size) (hx : FrIn .u32 1000000000 x w) (hy : FrIn .u32 1000000000 y w) (h0 : y.n ≠ 0)
    (hxn : ExP.nd 1000000000 x.n ≤ 1000000) (hxd : ExP.nd 1000000000 x.d ≤ 1000000) (hyn : ExP.nd 1000000000 y.n ≤ 1000000) (hyd : ExP.nd 1000000000 y.d ≤ 1000000) :
    Calls Tryz.prog 171 #[x.val 1000000000, y.val 1000000000] w (FrOutE .u32 1000000000 (ExP.mulN x.num (ExP.invN y.num)) 0 w) := by
  have S1 := fun (w' : World) (h : Below w.heap.size w w') => sum_any x y w' (Nat.lt_of_lt_of_le hw0 h.size) (hx.below h) (hy.below h) hxn hxd hyn hyd
  have S2 := fun (w' : World) (h : Below w.heap.size w w') => sum_any x ⟨!y.m, y.n, y.d, y.a, y.c, y.b, y.e⟩ w' (Nat.lt_of_lt_of_le hw0 h.size) (hx.below h) ⟨hy.sn.below h, hy.sd.below h, ⟨hy.cap.an, hy.cap.bn, hy.cap.cn, hy.cap.cd⟩⟩ hxn hxd hyn hyd
  obtain ⟨xm, xn, xd, xa, xc, xb, xe⟩ := x
  obtain ⟨ym, yn, yd, ya, yc, yb, ye⟩ := y
  obtain ⟨hx1, hx2, ⟨hx3, hx4, hx5, hx6⟩⟩ := hx
  obtain ⟨hy1, hy2, ⟨hy3, hy4, hy5, hy6⟩⟩ := hy
  dsimp only [FrV.num, FrV.val] at *
  have hz := fun w' => zero_any ya (ExP.nd 1000000000 yn) yc w'
  rw [show decide ((ExP.nd 1000000000 yn : Int) = 0) = false from decide_eq_false (by have := (ExP.nd_pos (b := 1000000000) (by omega)).2 (Nat.pos_of_ne_zero h0); omega)] at hz
  refine enter env_ok Tryz.func171 rfl Tryz.results171 Tryz.ntmps171 [] [200003] [.agg [.bool xm, .any (.slice xa (ExP.nd 1000000000 xn) xc), .any (.slice xb (ExP.nd 1000000000 xd) xe)], .agg [.bool ym, .any (.slice ya (ExP.nd 1000000000 yn) yc), .any (.slice yb (ExP.nd 1000000000 yd) ye)]] ⟨⟨trivial, rfl, rfl, trivial⟩, ⟨trivial, rfl, rfl, trivial⟩, trivial⟩ (Nat.le_of_ble_eq_true rfl) w _ 1000 ?_
  repeat' (first | ((with_reducible first | show wpS .. | show putD .. | show putW .. | show splitG .. | show wpQ .. | show wpD .. | show wpX .. | show expX .. | show stepX .. | show keepR .. | show wpY ..); conv => whnf) | ((with_reducible show RetN ..); refine retB fun β => ?_) | ((with_reducible show _ ∧ _); first | (refine ⟨fun h => absurd h (by first | omega | decide), fun _ => ?_⟩) | (refine ⟨fun _ => ?_, fun h => absurd h (by first | omega | decide)⟩) | (refine ⟨fun _ => ?_, fun _ => ?_⟩) | (apply And.intro; · kernel_rfl) | (apply And.intro; · (show inK _ _; unfold inK; omega)) | (apply And.intro; · (show (_ : Int) ≤ 9223372036854775807; (try simp only [lenS]); omega))) | ((with_reducible show AllBe ..); refine allBe fun βe => ?_; conv => whnf) | ((with_reducible show bothX ..); refine bothI ?_ ?_; conv => whnf) | (with_reducible exact trivial) | ((with_reducible show CallN ..); refine call_of env_ok rfl 1000 ?_) | ((with_reducible show XopN ..); refine xop_of env_ok rfl 1000 ?_) | ((with_reducible show CallX ..); first | (refine callX (.lit false) (by kernel_rfl) rfl trivial (fun β w' hm => hz w') ?_) | (refine callNat .u32 1000000000 (xn * yd) hw0 (by kernel_rfl) rfl (fun β w' hm => times_any xa yb xc ye xn yd w' (by omega) (by omega) (hx1.below hm.below) (hy2.below hm.below)) (fun p cp h1 h2 h3 => ?_)) | (refine callNat .u32 1000000000 (xd * yn) hw0 (by kernel_rfl) rfl (fun β w' hm => times_any xb ya xe yc xd yn w' (by omega) (by omega) (hx2.below hm.below) (hy1.below hm.below)) (fun q cq h4 h5 h6 => ?_))) | ((with_reducible show OpX ..); first | fail) | ((with_reducible show ∃ _ : SV, _); first | (refine ⟨_, ?ok, x_neBB xm ym (fun _ => rfl) (fun _ => rfl) Tryz.underlying4, ?_⟩; (case ok => exact fun _ _ => trivial))) | ((with_reducible show ∃ _, _); first | fail))
  all_goals refine ret fun β w' hm => ?_
  all_goals first | exact ⟨⟨_, _, _, p, cp, q, cq⟩, rfl, rfl, ⟨h1, h4, h2, h5⟩, Ls2 (hm.slF 3 rfl) (hm.freshF 3 rfl rfl) (hm.slF 4 rfl) (hm.freshF 4 rfl rfl), hm.below⟩ | exact ⟨⟨_, _, _, p, cp, q, cq⟩, rfl, rfl, ⟨h1, h4, h2, h5⟩, Ls2 (hm.slF 4 rfl) (hm.freshF 4 rfl rfl) (hm.slF 3 rfl) (hm.freshF 3 rfl rfl), hm.below⟩
set_option maxRecDepth 100000 in
set_option maxHeartbeats 4000000 in
theorem div1_zero (x y : FrV) (w : World) (hw0 : 0 < w.heap.size) (hx : FrIn .u32 1000000000 x w) (hy : FrIn .u32 1000000000 y w) (h0 : y.n = 0)
    (hxn : ExP.nd 1000000000 x.n ≤ 1000000) (hxd : ExP.nd 1000000000 x.d ≤ 1000000) (hyn : ExP.nd 1000000000 y.n ≤ 1000000) (hyd : ExP.nd 1000000000 y.d ≤ 1000000) :
    Calls Tryz.prog 171 #[x.val 1000000000, y.val 1000000000] w (FrOutE .u32 1000000000 (⟨false, 0, 0⟩) 1 w) := by
  have S1 := fun (w' : World) (h : Below w.heap.size w w') => sum_any x y w' (Nat.lt_of_lt_of_le hw0 h.size) (hx.below h) (hy.below h) hxn hxd hyn hyd
  have S2 := fun (w' : World) (h : Below w.heap.size w w') => sum_any x ⟨!y.m, y.n, y.d, y.a, y.c, y.b, y.e⟩ w' (Nat.lt_of_lt_of_le hw0 h.size) (hx.below h) ⟨hy.sn.below h, hy.sd.below h, ⟨hy.cap.an, hy.cap.bn, hy.cap.cn, hy.cap.cd⟩⟩ hxn hxd hyn hyd
  obtain ⟨xm, xn, xd, xa, xc, xb, xe⟩ := x
  obtain ⟨ym, yn, yd, ya, yc, yb, ye⟩ := y
  obtain ⟨hx1, hx2, ⟨hx3, hx4, hx5, hx6⟩⟩ := hx
  obtain ⟨hy1, hy2, ⟨hy3, hy4, hy5, hy6⟩⟩ := hy
  dsimp only [FrV.num, FrV.val] at *
  have hz := fun w' => zero_any ya (ExP.nd 1000000000 yn) yc w'
  rw [show decide ((ExP.nd 1000000000 yn : Int) = 0) = true from decide_eq_true (by subst h0; rw [ExP.nd_zero]; rfl)] at hz
  refine enter env_ok Tryz.func171 rfl Tryz.results171 Tryz.ntmps171 [] [200003] [.agg [.bool xm, .any (.slice xa (ExP.nd 1000000000 xn) xc), .any (.slice xb (ExP.nd 1000000000 xd) xe)], .agg [.bool ym, .any (.slice ya (ExP.nd 1000000000 yn) yc), .any (.slice yb (ExP.nd 1000000000 yd) ye)]] ⟨⟨trivial, rfl, rfl, trivial⟩, ⟨trivial, rfl, rfl, trivial⟩, trivial⟩ (Nat.le_of_ble_eq_true rfl) w _ 1000 ?_
  repeat' (first | ((with_reducible first | show wpS .. | show putD .. | show putW .. | show splitG .. | show wpQ .. | show wpD .. | show wpX .. | show expX .. | show stepX .. | show keepR .. | show wpY ..); conv => whnf) | ((with_reducible show RetN ..); refine retB fun β => ?_) | ((with_reducible show _ ∧ _); first | (refine ⟨fun h => absurd h (by first | omega | decide), fun _ => ?_⟩) | (refine ⟨fun _ => ?_, fun h => absurd h (by first | omega | decide)⟩) | (refine ⟨fun _ => ?_, fun _ => ?_⟩) | (apply And.intro; · kernel_rfl) | (apply And.intro; · (show inK _ _; unfold inK; omega)) | (apply And.intro; · (show (_ : Int) ≤ 9223372036854775807; (try simp only [lenS]); omega))) | ((with_reducible show AllBe ..); refine allBe fun βe => ?_; conv => whnf) | ((with_reducible show bothX ..); refine bothI ?_ ?_; conv => whnf) | (with_reducible exact trivial) | ((with_reducible show CallN ..); refine call_of env_ok rfl 1000 ?_) | ((with_reducible show XopN ..); refine xop_of env_ok rfl 1000 ?_) | ((with_reducible show CallX ..); first | (refine callX (.lit true) (by kernel_rfl) rfl trivial (fun β w' hm => hz w') ?_)) | ((with_reducible show OpX ..); first | fail) | ((with_reducible show ∃ _ : SV, _); first | (refine ⟨_, ?ok, x_neBB xm ym (fun _ => rfl) (fun _ => rfl) Tryz.underlying4, ?_⟩; (case ok => exact fun _ _ => trivial))) | ((with_reducible show ∃ _, _); first | fail))
  all_goals refine ret fun β w' hm => ?_
  all_goals exact ⟨⟨false, 0, 0, none, 0, none, 0⟩, by simp [FrV.val, SV.den, SV.dens, ExP.nd_zero], rfl, FrCap0, Ls0, hm.below⟩
end Go.Proofs.YtdkhkfdenlabaaaGreatDoor
