/- Rounding: the reference's Half, Nearest and Round. Rounding: a whole number of units as a text. Rounding: the program's Fixed. Rounding: the reference's Fixed. -/
import Derived.Test.YtfodbfbljeeojaaGreatDoorFGT
import Derived.Test.YtfodbfbljeeojaaGreatDoorFGR
import Derived.Test.YtfodbfbljeeojaaGreatDoorFGH
import Derived.Test.YtfodbfbljeeojaaGreatDoorFExR5
set_option linter.unusedSimpArgs false
set_option linter.unusedVariables false
namespace Go.Proofs.YtfodbfbljeeojaaGreatDoor
open Go.RowKit
open Sym
attribute [local irreducible] Calls Sym.AggEq ExP.nd ExP.dig ExP.upd
set_option maxRecDepth 100000 in
theorem rhalf_any (w : World) : Calls Tryz.prog 110 #[] w (FrOut .i64 10 ⟨false, 1, 2⟩ w) := by
  obtain ⟨i0, hi, hz0, hz1, hz2⟩ := info_parts intInfo
  have hu := Tryz.underlying34
  have hsz := fun w => Tryz.sizeOf3 w
  have hzv := fun w => Tryz.zeroValue3 w
  have hn1 : ExP.nd 10 1 = 1 := ExP.nd_one (by omega)
  have hv1 : nv .i64 10 1 = [.int .i64 1] := nv_one (by omega)
  have hn2 : ExP.nd 10 2 = 1 := ExP.nd_eq (by omega) (by omega) (.inr (by omega))
  have hv2 : nv .i64 10 2 = [.int .i64 2] := by unfold nv ExP.dg; rw [hn2, ExP.dig_self (by omega)]; rfl
  refine enter env_ok Tryz.func110 rfl Tryz.results110 Tryz.ntmps110 [] [] [] trivial (Nat.le_of_ble_eq_true rfl) w _ 1000 ?_
  repeat' (first | ((with_reducible first | show wpS _ _ _ _ | show putD _ _ _ _ | show putW _ _ _ _ | show splitG _ _ _ | show wpQ _ _ _ _ _ _ | show wpD _ _ _ _ _ _ _ | show wpX _ _ _ _ _ _ _ | show expX _ _ _ _ _ _ | show stepX _ _ _ _ | show keepR _ _ _ | show wpY _ _ _ _); conv => whnf) | ((with_reducible show RetN _ _ _); refine retB fun β => ?_) | ((with_reducible show _ ∧ _); first | (apply And.intro; (· intro h; exfalso; first | omega | (revert h; decide)); intro _) | (apply And.intro; rotate_left; (· intro h; exfalso; first | omega | (revert h; decide)); intro _) | (refine ⟨fun _ => ?_, fun _ => ?_⟩) | (apply And.intro; · kernel_rfl) | (apply And.intro; · (show inK _ _; unfold inK; omega)) | (apply And.intro; · (show (_ : Int) ≤ 9223372036854775807; (try simp only [List.length_append, List.length_drop, List.length_take, List.length_cons, List.length_nil]); omega))) | ((with_reducible show AllBe _); refine allBe fun βe => ?_; conv => whnf) | ((with_reducible show bothX _ _); refine bothI ?_ ?_; conv => whnf) | (with_reducible exact trivial) | ((with_reducible show CallN _ _ _ _ _ _ _ _); refine call_of env_ok rfl 1000 ?_) | ((with_reducible show XopN _ _ _ _ _ _); refine xop_of env_ok rfl 1000 ?_) | ((with_reducible show CallX _ _ _ _ _ _); first | fail) | ((with_reducible show OpX _ _ _ _); first | (refine opx_build1 (sz := 1) rfl rfl rfl (xs := [.int .i64 1]) (fun β => rfl) rfl (by omega) (by omega) hu hsz hzv (fun g1 => ?_)) | (refine opx_build1 (sz := 1) rfl rfl rfl (xs := [.int .i64 2]) (fun β => rfl) rfl (by omega) (by omega) hu hsz hzv (fun g2 => ?_))) | ((with_reducible show ∃ _ : SV, _); first | fail) | ((with_reducible show ∃ _, _); first | fail))
  all_goals refine ret fun β w' hm => ?_
  all_goals exact ⟨⟨false, 1, 2, some ⟨g1, 0, none⟩, 1, some ⟨g2, 0, none⟩, 1⟩, by simp only [FrV.val, hn1, hn2]; rfl, rfl, ⟨(fun h => by cases h), (fun h => by cases h), by dsimp only; omega, by dsimp only; omega⟩, Ls2 (by dsimp only; rw [hv1]; exact (hm.own 1 rfl).1) (by dsimp only; rw [hv1]; exact fresh_own (hm.own 1 rfl).2.1 rfl) (by dsimp only; rw [hv2]; exact (hm.own 2 rfl).1) (by dsimp only; rw [hv2]; exact fresh_own (hm.own 2 rfl).2.1 rfl), hm.below⟩
section
variable (x : FrV) (w : World) (hw0 : 0 < w.heap.size) (hx : FrIn .i64 10 x w) (hd : 0 < x.d) (hxn : ExP.nd 10 x.n ≤ 100000) (hxd : ExP.nd 10 x.d ≤ 100000)
include hw0 hx hd hxn hxd
set_option maxRecDepth 100000 in
set_option maxHeartbeats 4000000 in
theorem rnear_pos (hm : x.m = false) : Calls Tryz.prog 93 #[x.val 10] w (FrOut .i64 10 (ExP.nearN x.num) w) := by
  have hn1 : ExP.nd 10 1 = 1 := ExP.nd_one (by omega)
  have hn2 : ExP.nd 10 2 = 1 := ExP.nd_eq (by omega) (by omega) (.inr (by omega))
  obtain ⟨m, n, d, a, c, b, e⟩ := x
  dsimp only at hm hd hxn hxd
  subst hm
  have AD := fun ha hc hb he (w' : World) (h : Below w.heap.size w w') h2 => radd_any ⟨false, n, d, a, c, b, e⟩ ⟨false, 1, 2, ha, hc, hb, he⟩ w' (Nat.lt_of_lt_of_le hw0 h.size) (hx.below h) h2 (by dsimp only; omega) (by dsimp only; omega) (by dsimp only; omega) (by dsimp only; omega)
  have hS : ExP.sumN ⟨false, n, d⟩ ⟨false, 1, 2⟩ = ⟨false, n + n + d, d + d⟩ := by
    rw [ExP.sumN, if_pos rfl]
    simp only [Nat.mul_two, Nat.one_mul]
  have m1 := ExP.nd_add (b := 10) (m := 100000) (by omega) hxn hxn
  have m2 := ExP.nd_add (b := 10) (m := 100000) (by omega) hxd hxd
  have m3 := ExP.nd_add (b := 10) (m := 100001) (x := n + n) (y := d) (by omega) m1 (by omega)
  have hD : 0 < d + d := by omega
  dsimp only [FrV.num, FrV.val, ExP.nearN] at *
  rw [hS] at AD
  clear hS
  generalize n + n + d = T at *
  generalize d + d = D at *
  have FL := fun a1 c1 a2 c2 (w' : World) (h : Below w.heap.size w w') h2 => rfloor_any ⟨false, T, D, a1, c1, a2, c2⟩ w' (Nat.lt_of_lt_of_le hw0 h.size) h2 hD (by dsimp only; omega) (by dsimp only; omega)
  have hF : ExP.floorN ⟨false, T, D⟩ = ⟨false, T / D, 1⟩ := by unfold ExP.floorN; simp
  dsimp only [FrV.num, FrV.val] at FL
  rw [hF] at FL
  clear hF
  refine enter env_ok Tryz.func93 rfl Tryz.results93 Tryz.ntmps93 [] [200003] [.agg [.bool false, .any (.slice a (ExP.nd 10 n) c), .any (.slice b (ExP.nd 10 d) e)]] ⟨⟨trivial, rfl, rfl, trivial⟩, trivial⟩ (Nat.le_of_ble_eq_true rfl) w _ 1000 ?_
  repeat' (first | ((with_reducible first | show wpS _ _ _ _ | show putD _ _ _ _ | show putW _ _ _ _ | show splitG _ _ _ | show wpQ _ _ _ _ _ _ | show wpD _ _ _ _ _ _ _ | show wpX _ _ _ _ _ _ _ | show expX _ _ _ _ _ _ | show stepX _ _ _ _ | show keepR _ _ _ | show wpY _ _ _ _); conv => whnf) | ((with_reducible show RetN _ _ _); refine retB fun β => ?_) | ((with_reducible show _ ∧ _); first | (apply And.intro; (· intro h; exfalso; first | omega | (revert h; decide)); intro _) | (apply And.intro; rotate_left; (· intro h; exfalso; first | omega | (revert h; decide)); intro _) | (refine ⟨fun _ => ?_, fun _ => ?_⟩) | (apply And.intro; · kernel_rfl) | (apply And.intro; · (show inK _ _; unfold inK; omega)) | (apply And.intro; · (show (_ : Int) ≤ 9223372036854775807; (try simp only [List.length_append, List.length_drop, List.length_take, List.length_cons, List.length_nil]); omega))) | ((with_reducible show AllBe _); refine allBe fun βe => ?_; conv => whnf) | ((with_reducible show bothX _ _); refine bothI ?_ ?_; conv => whnf) | (with_reducible exact trivial) | ((with_reducible show CallN _ _ _ _ _ _ _ _); refine call_of env_ok rfl 1000 ?_) | ((with_reducible show XopN _ _ _ _ _ _); refine xop_of env_ok rfl 1000 ?_) | ((with_reducible show CallX _ _ _ _ _ _); first | (refine callFr .i64 10 ⟨false, 1, 2⟩ hw0 (by kernel_rfl) rfl (fun β w' hm => rhalf_any w') (fun a1 c1 a2 c2 hc1 => ?_)) | (refine callFr .i64 10 ⟨false, T, D⟩ hw0 (by kernel_rfl) rfl (fun β w' hm => AD a1 c1 a2 c2 w' hm.below (FrIn.of (hm.slF 2 rfl) (hm.slF 3 rfl) hc1)) (fun a3 c3 a4 c4 hc2 => ?_)) | (refine callFr .i64 10 ⟨false, T / D, 1⟩ hw0 (by kernel_rfl) rfl (fun β w' hm => FL a3 c3 a4 c4 w' hm.below (FrIn.of (hm.slF 4 rfl) (hm.slF 5 rfl) hc2)) (fun a5 c5 a6 c6 hc3 => ?_)) | fail) | ((with_reducible show OpX _ _ _ _); first | fail) | ((with_reducible show ∃ _ : SV, _); first | fail) | ((with_reducible show ∃ _, _); first | fail))
  all_goals first | (exfalso; omega) | (exfalso; clear AD FL; simp_all; done) | skip
  all_goals refine ret fun β w' hm => ?_
  all_goals exact ⟨⟨false, T / D, 1, a5, c5, a6, c6⟩, rfl, rfl, hc3, Ls2 (hm.slF 6 rfl) (hm.freshF 6 rfl rfl) (hm.slF 7 rfl) (hm.freshF 7 rfl rfl), hm.below⟩
set_option maxRecDepth 100000 in
set_option maxHeartbeats 4000000 in
theorem rnear_any : Calls Tryz.prog 93 #[x.val 10] w (FrOut .i64 10 (ExP.nearN x.num) w) := by
  obtain ⟨m, n, d, a, c, b, e⟩ := x
  cases m with
  | false => exact rnear_pos _ w hw0 hx hd hxn hxd rfl
  | true =>
    have NP := fun (w' : World) (h : Below w.heap.size w w') => rnear_pos ⟨false, n, d, a, c, b, e⟩ w' (Nat.lt_of_lt_of_le hw0 h.size) ⟨hx.sn.below h, hx.sd.below h, ⟨hx.cap.an, hx.cap.bn, hx.cap.cn, hx.cap.cd⟩⟩ hd hxn hxd rfl
    dsimp only [FrV.num, FrV.val, ExP.nearN] at *
    generalize (n + n + d) / (d + d) = Q at *
    refine enter env_ok Tryz.func93 rfl Tryz.results93 Tryz.ntmps93 [] [] [.agg [.bool true, .any (.slice a (ExP.nd 10 n) c), .any (.slice b (ExP.nd 10 d) e)]] ⟨⟨trivial, rfl, rfl, trivial⟩, trivial⟩ (Nat.le_of_ble_eq_true rfl) w _ 1000 ?_
    repeat' (first | ((with_reducible first | show wpS _ _ _ _ | show putD _ _ _ _ | show putW _ _ _ _ | show splitG _ _ _ | show wpQ _ _ _ _ _ _ | show wpD _ _ _ _ _ _ _ | show wpX _ _ _ _ _ _ _ | show expX _ _ _ _ _ _ | show stepX _ _ _ _ | show keepR _ _ _ | show wpY _ _ _ _); conv => whnf) | ((with_reducible show RetN _ _ _); refine retB fun β => ?_) | ((with_reducible show _ ∧ _); first | (apply And.intro; (· intro h; exfalso; first | omega | (revert h; decide)); intro _) | (apply And.intro; rotate_left; (· intro h; exfalso; first | omega | (revert h; decide)); intro _) | (refine ⟨fun _ => ?_, fun _ => ?_⟩) | (apply And.intro; · kernel_rfl) | (apply And.intro; · (show inK _ _; unfold inK; omega)) | (apply And.intro; · (show (_ : Int) ≤ 9223372036854775807; (try simp only [List.length_append, List.length_drop, List.length_take, List.length_cons, List.length_nil]); omega))) | ((with_reducible show AllBe _); refine allBe fun βe => ?_; conv => whnf) | ((with_reducible show bothX _ _); refine bothI ?_ ?_; conv => whnf) | (with_reducible exact trivial) | ((with_reducible show CallN _ _ _ _ _ _ _ _); refine call_of env_ok rfl 1000 ?_) | ((with_reducible show XopN _ _ _ _ _ _); refine xop_of env_ok rfl 1000 ?_) | ((with_reducible show CallX _ _ _ _ _ _); first | (refine callX (.agg [.bool false, .any (.slice a (ExP.nd 10 n) c), .any (.slice b (ExP.nd 10 d) e)]) (by kernel_rfl) rfl (⟨trivial, rfl, rfl, trivial⟩) (fun β w hm => rneg_any true a b _ c _ e w) ?_) | (refine callFr .i64 10 ⟨false, Q, 1⟩ hw0 (by kernel_rfl) rfl (fun β w' hm => NP w' hm.below) (fun a5 c5 a6 c6 hc3 => ?_)) | (refine callX (.agg [.bool true, .any (.slice a5 (ExP.nd 10 Q) c5), .any (.slice a6 (ExP.nd 10 1) c6)]) (by kernel_rfl) rfl (⟨trivial, rfl, rfl, trivial⟩) (fun β w hm => rneg_any false a5 a6 _ c5 _ c6 w) ?_) | fail) | ((with_reducible show OpX _ _ _ _); first | fail) | ((with_reducible show ∃ _ : SV, _); first | fail) | ((with_reducible show ∃ _, _); first | fail))
    all_goals first | (exfalso; omega) | (exfalso; clear NP; simp_all; done) | skip
    all_goals refine ret fun β w' hm => ?_
    all_goals exact ⟨⟨true, Q, 1, a5, c5, a6, c6⟩, rfl, rfl, ⟨hc3.an, hc3.bn, hc3.cn, hc3.cd⟩, Ls2 (hm.slF 2 rfl) (hm.freshF 2 rfl rfl) (hm.slF 3 rfl) (hm.freshF 3 rfl rfl), hm.below⟩
end
section
variable (x : FrV) (p : Int) (w : World) (hw0 : 0 < w.heap.size) (hx : FrIn .i64 10 x w) (hd : 0 < x.d) (hxn : ExP.nd 10 x.n ≤ 10000) (hxd : ExP.nd 10 x.d ≤ 10000) (hp : p.natAbs ≤ 10000)
include hw0 hx hd hxn hxd hp
set_option maxRecDepth 100000 in
set_option maxHeartbeats 4000000 in
theorem rround_any : Calls Tryz.prog 46 #[x.val 10, .int .i64 p] w (FrOut .i64 10 (ExP.roundN x.num p) w) := by
  unfold ExP.roundN
  obtain ⟨m, n, d, a, c, b, e⟩ := x
  have eN : FrV.num ⟨m, n, d, a, c, b, e⟩ = ⟨m, n, d⟩ := rfl
  rw [eN]
  obtain ⟨b1, b2, b3, b4⟩ := ExP.scale_nd (b := 10) (x := ⟨m, n, d⟩) (by omega) hxn hxd hp hd
  have b5 := ExP.near_nd (b := 10) (by omega) b1 b2
  have b6 : ExP.nd 10 (ExP.nearN (ExP.scaleN ⟨m, n, d⟩ p)).d ≤ 10000 := by show ExP.nd 10 1 ≤ _; rw [ExP.nd_one (by omega)]; omega
  have S1 := fun (w' : World) (h : Below w.heap.size w w') => rscaled_fr ⟨m, n, d, a, c, b, e⟩ p w' (Nat.lt_of_lt_of_le hw0 h.size) (by omega) (hx.below h) (by dsimp only at *; omega) (by dsimp only at *; omega)
  have S3 := fun a1 c1 a2 c2 (w' : World) (h : Below w.heap.size w w') hx => rscaled_fr ⟨(ExP.nearN (ExP.scaleN ⟨m, n, d⟩ p)).m, (ExP.nearN (ExP.scaleN ⟨m, n, d⟩ p)).n, (ExP.nearN (ExP.scaleN ⟨m, n, d⟩ p)).d, a1, c1, a2, c2⟩ (0 - p) w' (Nat.lt_of_lt_of_le hw0 h.size) (by omega) hx (by dsimp only; omega) (by dsimp only; omega)
  have eta : ∀ X : ExP.Num, (⟨X.m, X.n, X.d⟩ : ExP.Num) = X := fun _ => rfl
  dsimp only [FrV.num, FrV.val] at S1 S3
  simp only [eta, Int.zero_sub] at S3
  have S2 := fun a1 c1 a2 c2 (w' : World) (h : Below w.heap.size w w') hx => rnear_any ⟨(ExP.scaleN ⟨m, n, d⟩ p).m, (ExP.scaleN ⟨m, n, d⟩ p).n, (ExP.scaleN ⟨m, n, d⟩ p).d, a1, c1, a2, c2⟩ w' (Nat.lt_of_lt_of_le hw0 h.size) hx b3 (by dsimp only; omega) (by dsimp only; omega)
  dsimp only [FrV.num, FrV.val] at S2
  simp only [eta] at S2
  generalize ExP.scaleN (ExP.nearN (ExP.scaleN ⟨m, n, d⟩ p)) (-p) = X3 at *
  generalize ExP.nearN (ExP.scaleN ⟨m, n, d⟩ p) = X2 at *
  generalize ExP.scaleN ⟨m, n, d⟩ p = X1 at *
  obtain ⟨m1, n1, d1⟩ := X1
  obtain ⟨m2, n2, d2⟩ := X2
  obtain ⟨m3, n3, d3⟩ := X3
  obtain ⟨hx1, hx2, hx3⟩ := hx
  dsimp only at *
  simp only [← Int.zero_sub p] at S3
  refine enter env_ok Tryz.func46 rfl Tryz.results46 Tryz.ntmps46 [] [] [.agg [.bool m, .any (.slice a (ExP.nd 10 n) c), .any (.slice b (ExP.nd 10 d) e)], .int .i64 p] ⟨⟨trivial, rfl, rfl, trivial⟩, trivial, trivial⟩ (Nat.le_of_ble_eq_true rfl) w _ 1000 ?_
  repeat' (first | ((with_reducible first | show wpS _ _ _ _ | show putD _ _ _ _ | show putW _ _ _ _ | show splitG _ _ _ | show wpQ _ _ _ _ _ _ | show wpD _ _ _ _ _ _ _ | show wpX _ _ _ _ _ _ _ | show expX _ _ _ _ _ _ | show stepX _ _ _ _ | show keepR _ _ _ | show wpY _ _ _ _); conv => whnf) | ((with_reducible show RetN _ _ _); refine retB fun β => ?_) | ((with_reducible show _ ∧ _); first | (apply And.intro; (· intro h; exfalso; first | omega | (revert h; decide)); intro _) | (apply And.intro; rotate_left; (· intro h; exfalso; first | omega | (revert h; decide)); intro _) | (refine ⟨fun _ => ?_, fun _ => ?_⟩) | (apply And.intro; · kernel_rfl) | (apply And.intro; · (show inK _ _; unfold inK; omega)) | (apply And.intro; · (show (_ : Int) ≤ 9223372036854775807; (try simp only [List.length_append, List.length_drop, List.length_take, List.length_cons, List.length_nil]); omega))) | ((with_reducible show AllBe _); refine allBe fun βe => ?_; conv => whnf) | ((with_reducible show bothX _ _); refine bothI ?_ ?_; conv => whnf) | (with_reducible exact trivial) | ((with_reducible show CallN _ _ _ _ _ _ _ _); refine call_of env_ok rfl 1000 ?_) | ((with_reducible show XopN _ _ _ _ _ _); refine xop_of env_ok rfl 1000 ?_) | ((with_reducible show CallX _ _ _ _ _ _); first | (refine callFrL (Lz n a (Lz d b [])) .i64 10 ⟨m1, n1, d1⟩ hw0 (by kernel_rfl) rfl (apart_old (Nat.le_of_ble_eq_true rfl) hx1 rfl (apart_old (Nat.le_of_ble_eq_true rfl) hx2 rfl apart_nil)) (fun β w' hm => S1 w' hm.below) (fun a3 c3 a4 c4 hc2 => ?_)) | (refine callFr .i64 10 ⟨m2, n2, d2⟩ hw0 (by kernel_rfl) rfl (fun β w' hm => S2 a3 c3 a4 c4 w' hm.below (FrIn.of (hm.slB 2 rfl) (hm.slB 3 rfl) hc2)) (fun a5 c5 a6 c6 hc3 => ?_)) | (refine callFrN (Lz n2 a5 (Lz d2 a6 [])) .i64 10 ⟨m3, n3, d3⟩ hw0 (by kernel_rfl) rfl (new_row 4 (Nat.le_of_ble_eq_true rfl) rfl (new_row 5 (Nat.le_of_ble_eq_true rfl) rfl new_nil)) (fun β w' hm => S3 a5 c5 a6 c6 w' hm.below (FrIn.of (hm.slF 4 rfl) (hm.slF 5 rfl) hc3)) (fun a7 c7 a8 c8 hc4 => ?_)) | fail) | ((with_reducible show OpX _ _ _ _); first | fail) | ((with_reducible show ∃ _ : SV, _); first | fail) | ((with_reducible show ∃ _, _); first | fail))
  all_goals first | (exfalso; omega) | skip
  all_goals refine ret fun β w' hm => ?_
  all_goals exact ⟨⟨m3, n3, d3, a7, c7, a8, c8⟩, rfl, rfl, hc4, Ls2 (hm.slF 6 rfl) (hm.freshF 6 rfl rfl) (hm.slF 7 rfl) (hm.freshF 7 rfl rfl), hm.below⟩
end
end Go.Proofs.YtfodbfbljeeojaaGreatDoor
namespace Go.Proofs.YtfodbfbljeeojaaGreatDoor
open Go.RowKit
open Sym
attribute [local irreducible] Calls Sym.AggEq ExP.nd ExP.dig ExP.upd
namespace ExP
/-- the digits, with zeros ahead -/
def padT (s : Str) (k : Nat) : Str := List.replicate (k + 1 - s.length) 48 ++ s
/-- with a point -/
def dotT (s : Str) (k : Nat) : Str := if 0 < k then s.take (s.length - k) ++ [46] ++ s.drop (s.length - k) else s
def fixT (x : Num) (k : Nat) : Str :=
  let t := dotT (padT (Lib.decDigits x.n) k) k
  if x.m = true ∧ x.n ≠ 0 then 45 :: t else t
theorem pad_len (s : Str) (k : Nat) : (padT s k).length = (k + 1 - s.length) + s.length := by simp [padT]
end ExP
set_option maxRecDepth 100000 in
set_option maxHeartbeats 4000000 in
theorem decimal_any (x : FrV) (k : Nat) (w : World) (hw : XW w) (hk : k ≤ 100000) (hx : FrIn .u32 1000000000 x w) (hxn : ExP.nd 1000000000 x.n ≤ 1000000) (hl : (Lib.decDigits x.n).length ≤ 1000000) :
    Calls Tryz.prog 87 #[x.val 1000000000, .int .i64 (k : Int)] w fun e w' => e = .returned (.string (bstr (ExP.fixT x.num k))) ∧ Below w.heap.size w w' := by
  obtain ⟨m, n, d, a, c, b, e⟩ := x
  obtain ⟨hx1, hx2, -⟩ := hx
  dsimp only [FrV.num, FrV.val] at *
  have HT := fun (w' : World) (h : Below w.heap.size w w') => text_any a c n w' (hw.below h) hxn (hx1.below h)
  have HZ := fun w => zero_any a (ExP.nd 1000000000 n) c w
  have hz : ((ExP.nd 1000000000 n : Nat) : Int) = 0 ↔ n = 0 := by
    have := ExP.nd_pos (b := 1000000000) (x := n) (by omega)
    omega
  have hF : ExP.fixT ⟨m, n, d⟩ k = if m = true ∧ n ≠ 0 then 45 :: ExP.dotT (ExP.padT (Lib.decDigits n) k) k else ExP.dotT (ExP.padT (Lib.decDigits n) k) k := rfl
  rw [hF]
  clear hF
  generalize Lib.decDigits n = L at *
  obtain ⟨j, hj⟩ : ∃ j, j = k + 1 - L.length := ⟨_, rfl⟩
  have HR := fun w => repeat_any j w (by omega)
  have hmx : max (0 : Int) ((k : Int) + 1 - (L.length : Int)) = (j : Int) := by omega
  have hP := ExP.pad_len L k
  have hP2 : List.replicate j 48 ++ L = ExP.padT L k := by rw [hj]; rfl
  rw [← hj] at hP
  have hR : (List.replicate j (48 : UInt8)).length = j := by simp
  generalize List.replicate j (48 : UInt8) = Z at *
  have hd : ExP.dotT (ExP.padT L k) k = if 0 < k then (ExP.padT L k).take ((ExP.padT L k).length - k) ++ [46] ++ (ExP.padT L k).drop ((ExP.padT L k).length - k) else ExP.padT L k := rfl
  rw [hd]
  clear hd
  rw [← hP2] at *
  clear hP2
  have hZL : (Z ++ L).length = j + L.length := by rw [List.length_append, hR]
  obtain ⟨i, hi⟩ : ∃ i, i = (Z ++ L).length - k := ⟨_, rfl⟩
  rw [← hi]
  refine enter env_ok Tryz.func87 rfl Tryz.results87 Tryz.ntmps87 [] [] [.agg [.bool m, .any (.slice a (ExP.nd 1000000000 n) c), .any (.slice b (ExP.nd 1000000000 d) e)], .int .i64 (k : Int)] ⟨⟨trivial, rfl, rfl, trivial⟩, trivial, trivial⟩ (Nat.le_of_ble_eq_true rfl) w _ 1000 ?_
  repeat' (first | ((with_reducible first | show wpS _ _ _ _ | show putD _ _ _ _ | show putW _ _ _ _ | show splitG _ _ _ | show wpQ _ _ _ _ _ _ | show wpD _ _ _ _ _ _ _ | show wpX _ _ _ _ _ _ _ | show expX _ _ _ _ _ _ | show stepX _ _ _ _ | show keepR _ _ _ | show wpY _ _ _ _); conv => whnf) | ((with_reducible show RetN _ _ _); refine retB fun β => ?_) | ((with_reducible show _ ∧ _); first | (apply And.intro; (· intro h; exfalso; first | omega | (revert h; decide)); intro _) | (apply And.intro; rotate_left; (· intro h; exfalso; first | omega | (revert h; decide)); intro _) | (refine ⟨fun _ => ?_, fun _ => ?_⟩) | (apply And.intro; · kernel_rfl) | (apply And.intro; · (show inK _ _; unfold inK; omega)) | (apply And.intro; · (show (_ : Int) ≤ 9223372036854775807; (try simp only [List.length_append, List.length_drop, List.length_take, List.length_cons, List.length_nil]); omega))) | ((with_reducible show AllBe _); refine allBe fun βe => ?_; conv => whnf) | ((with_reducible show bothX _ _); refine bothI ?_ ?_; conv => whnf) | (with_reducible exact trivial) | ((with_reducible show CallN _ _ _ _ _ _ _ _); refine call_of env_ok rfl 1000 ?_) | ((with_reducible show XopN _ _ _ _ _ _); refine xop_of env_ok rfl 1000 ?_) | ((with_reducible show CallX _ _ _ _ _ _); first | (refine callX (.str L) (by kernel_rfl) rfl (trivial) (fun β w hm => HT w hm.below) ?_) | (refine callX (.str Z) (by kernel_rfl) rfl (trivial) (fun β w hm => by simp only [SV.dens, SV.den]; rw [hmx]; exact HR w) ?_) | (refine callX (.prop (((ExP.nd 1000000000 n : Nat) : Int) = 0) inferInstance) (by kernel_rfl) rfl (trivial) (fun β w hm => HZ w) ?_) | fail) | ((with_reducible show OpX _ _ _ _); first | fail) | ((with_reducible show ∃ _ : SV, _); first | fail) | ((with_reducible show ∃ _, _); first | (refine ⟨i, by omega, by omega, ?_⟩)))
  all_goals (by_cases e1 : 0 < k)
  all_goals first | (exfalso; omega) | skip
  all_goals simp only [e1, if_true, if_false]
  all_goals first | (rw [if_pos ⟨‹_›, by omega⟩]; rfl) | (rw [if_neg (by rintro ⟨h1, h2⟩; first | omega | simp_all)]; rfl) | fail
end Go.Proofs.YtfodbfbljeeojaaGreatDoor
namespace Go.Proofs.YtfodbfbljeeojaaGreatDoor
open Go.RowKit
open Sym
attribute [local irreducible] Calls Sym.AggEq ExP.nd ExP.dig ExP.upd ExP.writeF ExP.writeE
/-- a function that answers with a text and an error -/
def TxOut (s : List UInt8) (err : Int) (w : World) (e : Ending) (w' : World) : Prop := e = .returned (.tuple #[.string (bstr s), .int .i64 err]) ∧ Below w.heap.size w w'
theorem ExP.dec_len {n A : Nat} (h : ExP.nd 10 n ≤ A) (hA : 1 ≤ A) : (Lib.decDigits n).length ≤ A := by
  rcases Nat.eq_zero_or_pos n with rfl | h0
  · rw [Lib.decDigits_one (by omega)]; simpa using hA
  · rw [ExP.nd_dec h0]; exact h
section
variable (f : ExP.Fr) (p : Int) (w : World) (hw : XW w) (hw0 : 0 < w.heap.size) (h1 : f.1.length ≤ 9223372036854775807) (h2 : f.2.length ≤ 9223372036854775807)
include hw0 h1 h2
set_option maxRecDepth 100000 in
set_option maxHeartbeats 4000000 in
theorem fixed_bad (hE : ExP.readE f ≠ 0) :
    Calls Tryz.prog 40 #[frV f, .int .i64 p] w (TxOut [] (ExP.readE f) w) := by
  have R1 := fun (w' : World) (h : Below w.heap.size w w') => read_any f w' (Nat.lt_of_lt_of_le hw0 h.size) h1 h2
  rw [ExP.readV_bad rfl hE] at R1
  generalize ExP.readE f = E at *
  obtain ⟨f1, f2⟩ := f
  refine enter env_ok Tryz.func40 rfl Tryz.results40 Tryz.ntmps40 [] [] [.agg [.str f1, .str f2], .int .i64 p] (by simp [SV.oks, SV.ok]) (Nat.le_of_ble_eq_true rfl) w _ 1000 ?_
  repeat' (first | ((with_reducible first | show wpS _ _ _ _ | show putD _ _ _ _ | show putW _ _ _ _ | show splitG _ _ _ | show wpQ _ _ _ _ _ _ | show wpD _ _ _ _ _ _ _ | show wpX _ _ _ _ _ _ _ | show expX _ _ _ _ _ _ | show stepX _ _ _ _ | show keepR _ _ _ | show wpY _ _ _ _); conv => whnf) | ((with_reducible show RetN _ _ _); refine retB fun β => ?_) | ((with_reducible show _ ∧ _); first | (apply And.intro; (· intro h; exfalso; first | omega | (revert h; decide)); intro _) | (apply And.intro; rotate_left; (· intro h; exfalso; first | omega | (revert h; decide)); intro _) | (refine ⟨fun _ => ?_, fun _ => ?_⟩) | (apply And.intro; · kernel_rfl) | (apply And.intro; · (show inK _ _; unfold inK; omega)) | (apply And.intro; · (show (_ : Int) ≤ 9223372036854775807; (try simp only [List.length_append, List.length_drop, List.length_take, List.length_cons, List.length_nil]); omega))) | ((with_reducible show AllBe _); refine allBe fun βe => ?_; conv => whnf) | ((with_reducible show bothX _ _); refine bothI ?_ ?_; conv => whnf) | (with_reducible exact trivial) | ((with_reducible show CallN _ _ _ _ _ _ _ _); refine call_of env_ok rfl 1000 ?_) | ((with_reducible show XopN _ _ _ _ _ _); refine xop_of env_ok rfl 1000 ?_) | ((with_reducible show CallX _ _ _ _ _ _); first | (refine callFrE .u32 1000000000 ⟨false, 0, 0⟩ E hw0 (by kernel_rfl) rfl (fun β w' hm => R1 w' hm.below) (fun a1 c1 a2 c2 hcap => ?_))) | ((with_reducible show OpX _ _ _ _); first | fail) | ((with_reducible show ∃ _ : SV, _); first | fail) | ((with_reducible show ∃ _, _); first | fail))
  all_goals first | rfl | (exfalso; simp_all; done)
set_option maxRecDepth 100000 in
set_option maxHeartbeats 4000000 in
theorem fixed_far (hE : ExP.readE f = 0) (hp : p < 0 ∨ 100 < p) :
    Calls Tryz.prog 40 #[frV f, .int .i64 p] w (TxOut [] 2 w) := by
  have R1 := fun (w' : World) (h : Below w.heap.size w w') => read_any f w' (Nat.lt_of_lt_of_le hw0 h.size) h1 h2
  rw [ExP.readV_ok hE, hE] at R1
  generalize ExP.readN f = V at *
  obtain ⟨m, n, d⟩ := V
  obtain ⟨f1, f2⟩ := f
  refine enter env_ok Tryz.func40 rfl Tryz.results40 Tryz.ntmps40 [] [] [.agg [.str f1, .str f2], .int .i64 p] (by simp [SV.oks, SV.ok]) (Nat.le_of_ble_eq_true rfl) w _ 1000 ?_
  repeat' (first | ((with_reducible first | show wpS _ _ _ _ | show putD _ _ _ _ | show putW _ _ _ _ | show splitG _ _ _ | show wpQ _ _ _ _ _ _ | show wpD _ _ _ _ _ _ _ | show wpX _ _ _ _ _ _ _ | show expX _ _ _ _ _ _ | show stepX _ _ _ _ | show keepR _ _ _ | show wpY _ _ _ _); conv => whnf) | ((with_reducible show RetN _ _ _); refine retB fun β => ?_) | ((with_reducible show _ ∧ _); first | (apply And.intro; (· intro h; exfalso; first | omega | (revert h; decide)); intro _) | (apply And.intro; rotate_left; (· intro h; exfalso; first | omega | (revert h; decide)); intro _) | (refine ⟨fun _ => ?_, fun _ => ?_⟩) | (apply And.intro; · kernel_rfl) | (apply And.intro; · (show inK _ _; unfold inK; omega)) | (apply And.intro; · (show (_ : Int) ≤ 9223372036854775807; (try simp only [List.length_append, List.length_drop, List.length_take, List.length_cons, List.length_nil]); omega))) | ((with_reducible show AllBe _); refine allBe fun βe => ?_; conv => whnf) | ((with_reducible show bothX _ _); refine bothI ?_ ?_; conv => whnf) | (with_reducible exact trivial) | ((with_reducible show CallN _ _ _ _ _ _ _ _); refine call_of env_ok rfl 1000 ?_) | ((with_reducible show XopN _ _ _ _ _ _); refine xop_of env_ok rfl 1000 ?_) | ((with_reducible show CallX _ _ _ _ _ _); first | (refine callFrE .u32 1000000000 ⟨m, n, d⟩ 0 hw0 (by kernel_rfl) rfl (fun β w' hm => R1 w' hm.below) (fun a1 c1 a2 c2 hcap => ?_))) | ((with_reducible show OpX _ _ _ _); first | fail) | ((with_reducible show ∃ _ : SV, _); first | fail) | ((with_reducible show ∃ _, _); first | fail))
  all_goals first | rfl | (exfalso; omega) | (exfalso; simp_all; done)
include hw
set_option maxRecDepth 100000 in
set_option maxHeartbeats 4000000 in
theorem fixed_ok (k : Nat) (hE : ExP.readE f = 0) (hk : k ≤ 100) :
    Calls Tryz.prog 40 #[frV f, .int .i64 (k : Int)] w (TxOut (if ExP.writeE (ExP.roundN (ExP.readN f) k) = 0 then ExP.fixT (ExP.nearN (ExP.scaleN (ExP.readN f) k)) k else []) (ExP.writeE (ExP.roundN (ExP.readN f) k)) w) := by
  obtain ⟨p, hp⟩ : ∃ p : Int, p = (k : Int) := ⟨_, rfl⟩
  rw [← hp]
  have R1 := fun (w' : World) (h : Below w.heap.size w w') => read_any f w' (Nat.lt_of_lt_of_le hw0 h.size) h1 h2
  obtain ⟨q1, q2, q3⟩ := ExP.read_nd hE (b := 1000000000) (by omega)
  obtain ⟨s1, s2, -⟩ := ExP.read_nd hE (b := 10) (by omega)
  rw [ExP.readV_ok hE, hE] at R1
  unfold ExP.roundN
  have W1 := fun (x : FrV) (w' : World) (h : Below w.heap.size w w') => write_any x w' (hw.below h) (Nat.lt_of_lt_of_le hw0 h.size)
  have D1 := fun (x : FrV) (w' : World) (h : Below w.heap.size w w') => decimal_any x k w' (hw.below h) (by omega)
  rw [← hp] at D1
  generalize ExP.readN f = V at *
  have hpk : p.natAbs ≤ 100 := by omega
  obtain ⟨b1, b2, b3, b4⟩ := ExP.scale_nd (b := 1000000000) (by omega) q1 q2 hpk q3
  have b5 := ExP.near_nd (b := 1000000000) (by omega) b1 b2
  obtain ⟨e1, e2, -, -⟩ := ExP.scale_nd (b := 10) (by omega) s1 s2 hpk q3
  have e5 := ExP.dec_len (ExP.near_nd (b := 10) (by omega) e1 e2) (by omega)
  have b6 : ExP.nd 1000000000 (ExP.nearN (ExP.scaleN V p)).d ≤ 300 + (100 + 1) + 2 := by show ExP.nd 1000000000 1 ≤ _; rw [ExP.nd_one (by omega)]; omega
  have b7 : 0 < (ExP.nearN (ExP.scaleN V p)).d := Nat.one_pos
  have hnk : (-p).natAbs ≤ 100 := by omega
  obtain ⟨b8, b9, b10, b11⟩ := ExP.scale_nd (b := 1000000000) (by omega) b5 b6 hnk b7
  have S1 := fun a1 c1 a2 c2 (w' : World) (h : Below w.heap.size w w') hx => scaled_fr ⟨V.m, V.n, V.d, a1, c1, a2, c2⟩ p w' (Nat.lt_of_lt_of_le hw0 h.size) (by omega) hx (by dsimp only; omega) (by dsimp only; omega)
  have S3 := fun a1 c1 a2 c2 (w' : World) (h : Below w.heap.size w w') hx => scaled_fr ⟨(ExP.nearN (ExP.scaleN V p)).m, (ExP.nearN (ExP.scaleN V p)).n, (ExP.nearN (ExP.scaleN V p)).d, a1, c1, a2, c2⟩ (0 - p) w' (Nat.lt_of_lt_of_le hw0 h.size) (by omega) hx (by dsimp only; omega) (by dsimp only; omega)
  have eta : ∀ X : ExP.Num, (⟨X.m, X.n, X.d⟩ : ExP.Num) = X := fun _ => rfl
  dsimp only [FrV.num, FrV.val] at S1 S3
  simp only [eta, Int.zero_sub] at S1 S3
  have S2 := fun a1 c1 a2 c2 (w' : World) (h : Below w.heap.size w w') hx => rounded_any ⟨(ExP.scaleN V p).m, (ExP.scaleN V p).n, (ExP.scaleN V p).d, a1, c1, a2, c2⟩ w' (Nat.lt_of_lt_of_le hw0 h.size) hx b3 (by dsimp only; omega) (by dsimp only; omega)
  dsimp only [FrV.num, FrV.val] at S2
  simp only [eta] at S2
  generalize ExP.scaleN (ExP.nearN (ExP.scaleN V p)) (-p) = X3 at *
  generalize ExP.nearN (ExP.scaleN V p) = X2 at *
  generalize ExP.scaleN V p = X1 at *
  obtain ⟨m, n, d⟩ := V
  obtain ⟨m1, n1, d1⟩ := X1
  obtain ⟨m2, n2, d2⟩ := X2
  obtain ⟨m3, n3, d3⟩ := X3
  dsimp only at *
  simp only [← Int.zero_sub p] at S3
  have eF := fun a5 c5 a6 c6 => (rfl : FrV.num ⟨m2, n2, d2, a5, c5, a6, c6⟩ = ⟨m2, n2, d2⟩)
  generalize hT : ExP.fixT ⟨m2, n2, d2⟩ k = T at *
  generalize hWE : ExP.writeE ⟨m3, n3, d3⟩ = E at *
  obtain ⟨f1, f2⟩ := f
  refine enter env_ok Tryz.func40 rfl Tryz.results40 Tryz.ntmps40 [] [] [.agg [.str f1, .str f2], .int .i64 p] (by simp [SV.oks, SV.ok]) (Nat.le_of_ble_eq_true rfl) w _ 1000 ?_
  repeat' (first | ((with_reducible first | show wpS _ _ _ _ | show putD _ _ _ _ | show putW _ _ _ _ | show splitG _ _ _ | show wpQ _ _ _ _ _ _ | show wpD _ _ _ _ _ _ _ | show wpX _ _ _ _ _ _ _ | show expX _ _ _ _ _ _ | show stepX _ _ _ _ | show keepR _ _ _ | show wpY _ _ _ _); conv => whnf) | ((with_reducible show RetN _ _ _); refine retB fun β => ?_) | ((with_reducible show _ ∧ _); first | (apply And.intro; (· intro h; exfalso; first | omega | (revert h; decide)); intro _) | (apply And.intro; rotate_left; (· intro h; exfalso; first | omega | (revert h; decide)); intro _) | (refine ⟨fun _ => ?_, fun _ => ?_⟩) | (apply And.intro; · kernel_rfl) | (apply And.intro; · (show inK _ _; unfold inK; omega)) | (apply And.intro; · (show (_ : Int) ≤ 9223372036854775807; (try simp only [List.length_append, List.length_drop, List.length_take, List.length_cons, List.length_nil]); omega))) | ((with_reducible show AllBe _); refine allBe fun βe => ?_; conv => whnf) | ((with_reducible show bothX _ _); refine bothI ?_ ?_; conv => whnf) | (with_reducible exact trivial) | ((with_reducible show CallN _ _ _ _ _ _ _ _); refine call_of env_ok rfl 1000 ?_) | ((with_reducible show XopN _ _ _ _ _ _); refine xop_of env_ok rfl 1000 ?_) | ((with_reducible show CallX _ _ _ _ _ _); first | (refine callFrE .u32 1000000000 ⟨m, n, d⟩ 0 hw0 (by kernel_rfl) rfl (fun β w' hm => R1 w' hm.below) (fun a1 c1 a2 c2 hc1 => ?_)) | (refine callFrL (Lz n a1 (Lz d a2 [])) .u32 1000000000 ⟨m1, n1, d1⟩ hw0 (by kernel_rfl) rfl (apart_row 1 (Nat.le_of_ble_eq_true rfl) rfl (apart_row 2 (Nat.le_of_ble_eq_true rfl) rfl apart_nil)) (fun β w' hm => S1 a1 c1 a2 c2 w' hm.below (FrIn.of (hm.slF 1 rfl) (hm.slF 2 rfl) hc1)) (fun a3 c3 a4 c4 hc2 => ?_)) | (refine callFr .u32 1000000000 ⟨m2, n2, d2⟩ hw0 (by kernel_rfl) rfl (fun β w' hm => S2 a3 c3 a4 c4 w' hm.below (FrIn.of (hm.slB 4 rfl) (hm.slB 5 rfl) hc2)) (fun a5 c5 a6 c6 hc3 => ?_)) | (refine callFrL (Lz n2 a5 (Lz d2 a6 [])) .u32 1000000000 ⟨m3, n3, d3⟩ hw0 (by kernel_rfl) rfl (apart_row 6 (Nat.le_of_ble_eq_true rfl) rfl (apart_row 7 (Nat.le_of_ble_eq_true rfl) rfl apart_nil)) (fun β w' hm => S3 a5 c5 a6 c6 w' hm.below (FrIn.of (hm.slF 6 rfl) (hm.slF 7 rfl) hc3)) (fun a7 c7 a8 c8 hc4 => ?_)) | (refine callX (.tup [.agg [.str (ExP.writeF ⟨m3, n3, d3⟩).1, .str (ExP.writeF ⟨m3, n3, d3⟩).2], .int .i64 E]) (by kernel_rfl) rfl (⟨⟨trivial, trivial, trivial⟩, trivial, trivial⟩) (fun β w hm => by rw [← hWE]; exact W1 ⟨m3, n3, d3, a7, c7, a8, c8⟩ w hm.below (FrIn.of (hm.slB 9 rfl) (hm.slB 10 rfl) hc4) b10 (by dsimp only; omega) (by dsimp only; omega)) ?_) | (refine callX (.str T) (by kernel_rfl) rfl (trivial) (fun β w hm => by rw [← hT]; exact D1 ⟨m2, n2, d2, a5, c5, a6, c6⟩ w hm.below (FrIn.of (hm.slF 6 rfl) (hm.slF 7 rfl) hc3) (by dsimp only; omega) (by dsimp only; omega)) ?_) | fail) | ((with_reducible show OpX _ _ _ _); first | fail) | ((with_reducible show ∃ _ : SV, _); first | fail) | ((with_reducible show ∃ _, _); first | fail))
  all_goals first | (exfalso; omega) | (by_cases hE0 : E = 0 <;> simp_all [SV.den, SV.dens]; done) | skip
end
end Go.Proofs.YtfodbfbljeeojaaGreatDoor
namespace Go.Proofs.YtfodbfbljeeojaaGreatDoor
open Go.RowKit
open Sym
attribute [local irreducible] Calls Sym.AggEq ExP.nd ExP.dig ExP.upd
set_option maxRecDepth 100000 in
set_option maxHeartbeats 4000000 in
theorem rfixed_any (x : FrV) (k : Nat) (w : World) (hw0 : 0 < w.heap.size) (hx : FrIn .i64 10 x w) (hd : 0 < x.d) (hxn : ExP.nd 10 x.n ≤ 10000) (hxd : ExP.nd 10 x.d ≤ 10000) (hk : k ≤ 10000) :
    Calls Tryz.prog 45 #[x.val 10, .int .i64 (k : Int)] w fun e w' => e = .returned (.string (bstr (ExP.fixT (ExP.nearN (ExP.scaleN x.num k)) k))) ∧ Below w.heap.size w w' := by
  obtain ⟨m, n, d, a, c, b, e⟩ := x
  have eN : FrV.num ⟨m, n, d, a, c, b, e⟩ = ⟨m, n, d⟩ := rfl
  rw [eN]
  have hpk : ((k : Nat) : Int).natAbs ≤ 10000 := by omega
  obtain ⟨b1, b2, b3, b4⟩ := ExP.scale_nd (b := 10) (x := ⟨m, n, d⟩) (by omega) hxn hxd hpk hd
  have b5 := ExP.near_nd (b := 10) (by omega) b1 b2
  have e5 := ExP.dec_len b5 (by omega)
  have S1 := fun (w' : World) (h : Below w.heap.size w w') => rscaled_fr ⟨m, n, d, a, c, b, e⟩ (k : Int) w' (Nat.lt_of_lt_of_le hw0 h.size) (by omega) (hx.below h) (by dsimp only at *; omega) (by dsimp only at *; omega)
  have eta : ∀ X : ExP.Num, (⟨X.m, X.n, X.d⟩ : ExP.Num) = X := fun _ => rfl
  dsimp only [FrV.num, FrV.val] at S1
  have S2 := fun a1 c1 a2 c2 (w' : World) (h : Below w.heap.size w w') hx => rnear_any ⟨(ExP.scaleN ⟨m, n, d⟩ k).m, (ExP.scaleN ⟨m, n, d⟩ k).n, (ExP.scaleN ⟨m, n, d⟩ k).d, a1, c1, a2, c2⟩ w' (Nat.lt_of_lt_of_le hw0 h.size) hx b3 (by dsimp only; omega) (by dsimp only; omega)
  dsimp only [FrV.num, FrV.val] at S2
  simp only [eta] at S2
  generalize ExP.nearN (ExP.scaleN ⟨m, n, d⟩ k) = X2 at *
  generalize ExP.scaleN ⟨m, n, d⟩ k = X1 at *
  obtain ⟨m1, n1, d1⟩ := X1
  obtain ⟨m2, n2, d2⟩ := X2
  obtain ⟨hx1, hx2, hx3⟩ := hx
  dsimp only at *
  have HT := fun a5 c5 (w' : World) h => rtext_any a5 c5 n2 w' (by omega) h
  have hF : ExP.fixT ⟨m2, n2, d2⟩ k = if m2 = true ∧ n2 ≠ 0 then 45 :: ExP.dotT (ExP.padT (Lib.decDigits n2) k) k else ExP.dotT (ExP.padT (Lib.decDigits n2) k) k := rfl
  rw [hF]
  clear hF
  generalize Lib.decDigits n2 = L at *
  obtain ⟨j, hj⟩ : ∃ j, j = k + 1 - L.length := ⟨_, rfl⟩
  have hPd : ∀ z, (List.replicate z (48 : UInt8) ++ L).length = z + L.length := fun z => by simp
  have hP2 : ExP.padT L k = List.replicate j 48 ++ L := by rw [hj]; rfl
  have hdt : ExP.dotT (ExP.padT L k) k = if 0 < k then (ExP.padT L k).take ((ExP.padT L k).length - k) ++ [46] ++ (ExP.padT L k).drop ((ExP.padT L k).length - k) else ExP.padT L k := rfl
  rw [hdt, hP2, hPd]
  clear hdt hP2
  obtain ⟨i, hi⟩ : ∃ i, i = j + L.length - k := ⟨_, rfl⟩
  rw [← hi]
  refine enter env_ok Tryz.func45 rfl Tryz.results45 Tryz.ntmps45 [] [] [.agg [.bool m, .any (.slice a (ExP.nd 10 n) c), .any (.slice b (ExP.nd 10 d) e)], .int .i64 (k : Int)] ⟨⟨trivial, rfl, rfl, trivial⟩, trivial, trivial⟩ (Nat.le_of_ble_eq_true rfl) w _ 1000 ?_
  repeat' (first | ((with_reducible first | show wpS _ _ _ _ | show putD _ _ _ _ | show putW _ _ _ _ | show splitG _ _ _ | show wpQ _ _ _ _ _ _ | show wpD _ _ _ _ _ _ _ | show wpX _ _ _ _ _ _ _ | show expX _ _ _ _ _ _ | show stepX _ _ _ _ | show keepR _ _ _ | show wpY _ _ _ _); conv => whnf) | ((with_reducible show RetN _ _ _); refine retB fun β => ?_) | ((with_reducible show _ ∧ _); first | (apply And.intro; (· intro h; exfalso; first | omega | (revert h; decide)); intro _) | (apply And.intro; rotate_left; (· intro h; exfalso; first | omega | (revert h; decide)); intro _) | (refine ⟨fun _ => ?_, fun _ => ?_⟩) | (apply And.intro; · kernel_rfl) | (apply And.intro; · (show inK _ _; unfold inK; omega)) | (apply And.intro; · (show (_ : Int) ≤ 9223372036854775807; (try simp only [List.length_append, List.length_drop, List.length_take, List.length_cons, List.length_nil]); omega))) | ((with_reducible show AllBe _); refine allBe fun βe => ?_; conv => whnf) | ((with_reducible show bothX _ _); refine bothI ?_ ?_; conv => whnf) | (with_reducible exact trivial) | ((with_reducible show CallN _ _ _ _ _ _ _ _); refine call_of env_ok rfl 1000 ?_) | ((with_reducible show XopN _ _ _ _ _ _); refine xop_of env_ok rfl 1000 ?_) | ((with_reducible show CallX _ _ _ _ _ _); first | (refine callFrL (Lz n a (Lz d b [])) .i64 10 ⟨m1, n1, d1⟩ hw0 (by kernel_rfl) rfl (apart_old (Nat.le_of_ble_eq_true rfl) hx1 rfl (apart_old (Nat.le_of_ble_eq_true rfl) hx2 rfl apart_nil)) (fun β w' hm => S1 w' hm.below) (fun a3 c3 a4 c4 hc2 => ?_)) | (refine callFr .i64 10 ⟨m2, n2, d2⟩ hw0 (by kernel_rfl) rfl (fun β w' hm => S2 a3 c3 a4 c4 w' hm.below (FrIn.of (by first | exact hm.slB 1 rfl | exact hm.slB 2 rfl) (by first | exact hm.slB 2 rfl | exact hm.slB 3 rfl) hc2)) (fun a5 c5 a6 c6 hc3 => ?_)) | (refine callX (.str L) (by kernel_rfl) rfl (trivial) (fun β w hm => HT a5 c5 w (by first | exact hm.slF 3 rfl | exact hm.slF 4 rfl)) ?_) | fail) | ((with_reducible show OpX _ _ _ _); first | fail) | ((with_reducible show ∃ _ : SV, _); first | fail) | ((with_reducible show ∃ _, _); first | fail))
  refine loop env_ok rfl (T := {z : Nat // z ≤ j}) (fun t => ⟨[(1, .int .i64 (k : Int)), (5, .ptr 5 0), (6, .str (List.replicate t.1 48 ++ L))], [(5, true, .cells 36 [.bool m2, .any (.slice a5 (ExP.nd 10 n2) c5), .any (.slice a6 (ExP.nd 10 d2) c6)])], 6, 42⟩) (fun t => j - t.1) ⟨0, Nat.zero_le _⟩ 1000 [] [] (fun _ => by exact Nat.zero_le _) (by dsimp only; ((with_reducible show wk _ _); repeat' (first | exact trivial | exact eqSV_refl _ | (refine eqI ?_) | (refine eqS ?_) | (with_reducible exact rfl) | apply And.intro | exact Nat.zero_lt_one | exact Nat.le_of_ble_eq_true rfl | (with_reducible assumption) | ((show (_ : Int) = _); (try dsimp only); omega) | ((show eqSV _ _); simp [eqSV, isB, bval, *]; done) | rfl))) (fun t I hI => ?_)
  obtain ⟨z, hz⟩ := t
  dsimp only
  have hzl := hPd z
  by_cases hlt : z < j
  · obtain ⟨S, hS⟩ : ∃ S, S = List.replicate z (48 : UInt8) ++ L := ⟨_, rfl⟩
    have hS1 : List.replicate (z + 1) (48 : UInt8) ++ L = [48] ++ S := by rw [hS]; rfl
    rw [← hS] at hzl ⊢
    clear hS
    repeat' (first | ((with_reducible first | show wpS _ _ _ _ | show putD _ _ _ _ | show putW _ _ _ _ | show splitG _ _ _ | show wpQ _ _ _ _ _ _ | show wpD _ _ _ _ _ _ _ | show wpX _ _ _ _ _ _ _ | show expX _ _ _ _ _ _ | show stepX _ _ _ _ | show keepR _ _ _ | show wpY _ _ _ _); conv => whnf) | ((with_reducible show RetN _ _ _); refine retB fun β => ?_) | ((with_reducible show _ ∧ _); first | (apply And.intro; (· intro h; exfalso; first | omega | (revert h; decide)); intro _) | (apply And.intro; rotate_left; (· intro h; exfalso; first | omega | (revert h; decide)); intro _) | (refine ⟨fun _ => ?_, fun _ => ?_⟩) | (apply And.intro; · kernel_rfl) | (apply And.intro; · (show inK _ _; unfold inK; omega)) | (apply And.intro; · (show (_ : Int) ≤ 9223372036854775807; (try simp only [List.length_append, List.length_drop, List.length_take, List.length_cons, List.length_nil]); omega))) | ((with_reducible show AllBe _); refine allBe fun βe => ?_; conv => whnf) | ((with_reducible show bothX _ _); refine bothI ?_ ?_; conv => whnf) | (with_reducible exact trivial) | ((with_reducible show CallN _ _ _ _ _ _ _ _); refine call_of env_ok rfl 1000 ?_) | ((with_reducible show XopN _ _ _ _ _ _); refine xop_of env_ok rfl 1000 ?_) | ((with_reducible show CallX _ _ _ _ _ _); first | fail) | ((with_reducible show OpX _ _ _ _); first | fail) | ((with_reducible show ∃ _ : SV, _); first | fail) | ((with_reducible show ∃ _, _); first | fail))
    all_goals first | (exfalso; omega) | exact hI _ ⟨z + 1, by omega⟩ (by dsimp only; omega) (by dsimp only; rw [hS1]; ((with_reducible show wk _ _); repeat' (first | exact trivial | exact eqSV_refl _ | (refine eqI ?_) | (refine eqS ?_) | (with_reducible exact rfl) | apply And.intro | exact Nat.zero_lt_one | exact Nat.le_of_ble_eq_true rfl | (with_reducible assumption) | ((show (_ : Int) = _); (try dsimp only); omega) | ((show eqSV _ _); simp [eqSV, isB, bval, *]; done) | rfl)))
  · obtain rfl : z = j := by omega
    clear hI
    have hZ : (List.replicate z (48 : UInt8)).length = z := by simp
    have RS := fun w => rsign_any m2 a5 a6 n2 c5 (ExP.nd 10 d2) c6 w
    have hsv : (if n2 = 0 then (0 : Int) else if m2 = true then -1 else 1) < 0 ↔ (m2 = true ∧ n2 ≠ 0) := by
      by_cases h1 : n2 = 0 <;> cases m2 <;> simp [h1]
    generalize (if n2 = 0 then (0 : Int) else if m2 = true then -1 else 1) = sv at *
    generalize List.replicate z (48 : UInt8) = Z at *
    repeat' (first | ((with_reducible first | show wpS _ _ _ _ | show putD _ _ _ _ | show putW _ _ _ _ | show splitG _ _ _ | show wpQ _ _ _ _ _ _ | show wpD _ _ _ _ _ _ _ | show wpX _ _ _ _ _ _ _ | show expX _ _ _ _ _ _ | show stepX _ _ _ _ | show keepR _ _ _ | show wpY _ _ _ _); conv => whnf) | ((with_reducible show RetN _ _ _); refine retB fun β => ?_) | ((with_reducible show _ ∧ _); first | (apply And.intro; (· intro h; exfalso; first | omega | (revert h; decide)); intro _) | (apply And.intro; rotate_left; (· intro h; exfalso; first | omega | (revert h; decide)); intro _) | (refine ⟨fun _ => ?_, fun _ => ?_⟩) | (apply And.intro; · kernel_rfl) | (apply And.intro; · (show inK _ _; unfold inK; omega)) | (apply And.intro; · (show (_ : Int) ≤ 9223372036854775807; (try simp only [List.length_append, List.length_drop, List.length_take, List.length_cons, List.length_nil]); omega))) | ((with_reducible show AllBe _); refine allBe fun βe => ?_; conv => whnf) | ((with_reducible show bothX _ _); refine bothI ?_ ?_; conv => whnf) | (with_reducible exact trivial) | ((with_reducible show CallN _ _ _ _ _ _ _ _); refine call_of env_ok rfl 1000 ?_) | ((with_reducible show XopN _ _ _ _ _ _); refine xop_of env_ok rfl 1000 ?_) | ((with_reducible show CallX _ _ _ _ _ _); first | (refine callX (.int .i64 sv) (by kernel_rfl) rfl (trivial) (fun β w hm => RS w) ?_)) | ((with_reducible show OpX _ _ _ _); first | fail) | ((with_reducible show ∃ _ : SV, _); first | fail) | ((with_reducible show ∃ _, _); first | (refine ⟨i, by omega, by omega, ?_⟩)))
    all_goals first | (exfalso; omega) | skip
    all_goals (by_cases e1 : 0 < k)
    all_goals first | (exfalso; omega) | skip
    all_goals simp only [e1, if_true, if_false]
    all_goals first | (rw [if_pos (hsv.1 (by assumption))]; rfl) | (rw [if_neg (fun h => absurd (hsv.2 h) (by assumption))]; rfl) | fail
end Go.Proofs.YtfodbfbljeeojaaGreatDoor
