/- The law of powers. -/
import Derived.Test.YtfodbfbljeeojaaGreatDoorEExG5
import Derived.Test.YtfodbfbljeeojaaGreatDoorEExQ5
set_option linter.unusedSimpArgs false
set_option linter.unusedVariables false
namespace Go.Proofs.YtfodbfbljeeojaaGreatDoor
open Go.RowKit
open Sym
attribute [local irreducible] Calls Sym.AggEq ExP.nd ExP.dig ExP.upd ExP.writeF ExP.writeE
section
attribute [local semireducible] ExP.writeF ExP.writeE
theorem ExP.whole_write (p : Int) (h0 : -9223372036854775808 ≤ p) (h1 : p ≤ 9223372036854775807) : (Lib.itoa p, ([49] : List UInt8)) = ExP.writeF (ExP.wholeN p) ∧ 0 = ExP.writeE (ExP.wholeN p) := by
  unfold ExP.writeF ExP.writeE
  by_cases hp : p.natAbs = 0
  · have : p = 0 := by omega
    subst this
    simp [ExP.wholeN, Lib.itoa, Lib.decDigits_one]
  · have h2 : (ExP.wholeN p).n ≠ 0 := hp
    have hr1 : ExP.redN (ExP.wholeN p) = p.natAbs := by simp [ExP.redN, ExP.wholeN]
    have hr2 : ExP.redD (ExP.wholeN p) = 1 := by simp [ExP.redD, ExP.wholeN]
    have hl := dec_le p.natAbs (by omega)
    have e1 : Lib.decDigits 1 = [49] := by rw [Lib.decDigits_one (by omega)]; rfl
    have ho : ¬ ExP.overP (ExP.wholeN p) := by
      unfold ExP.overP
      rw [hr1, hr2, e1]
      simp; omega
    rw [if_neg h2, if_neg h2, if_neg ho, if_neg ho, hr1, hr2]
    refine ⟨?_, rfl⟩
    rw [e1]
    congr 1
    unfold ExP.signP Lib.itoa ExP.wholeN
    by_cases hn : p < 0
    · simp [hn]
    · have : p.toNat = p.natAbs := by omega
      simp [hn, this]
end
theorem ExP.ratio_mul (p q : Int) : ExP.mulN (ExP.wholeN p) (ExP.invN (ExP.wholeN q)) = ExP.ratioN p q := by
  simp [ExP.mulN, ExP.invN, ExP.wholeN, ExP.ratioN]
theorem powI {x : ExP.Num} {k : Nat} (hk : k ≤ 1000) (h1 : ExP.nd 10 x.n ≤ 300) (h2 : ExP.nd 10 x.d ≤ 300) (h3 : 0 < x.d) : OpI (ExP.powN x k) (ExP.writeF (ExP.powN x k)) (ExP.writeE (ExP.powN x k)) := by
  have b1 := ExP.nd_pow (b := 10) (by omega) h1 k
  have b2 := ExP.nd_pow (b := 10) (by omega) h2 k
  have b3 : 300 * k ≤ 300 * 1000 := Nat.mul_le_mul_left _ hk
  exact ⟨Nat.pow_pos h3, by show ExP.nd 10 (x.n ^ k) ≤ 1000000; omega, by show ExP.nd 10 (x.d ^ k) ≤ 1000000; omega, rfl, rfl⟩
theorem nd_abs {p : Int} (h0 : -9223372036854775808 ≤ p) (h1 : p ≤ 9223372036854775807) : ExP.nd 10 p.natAbs ≤ 20 := ExP.nd_le (by omega) (by simp; omega)
set_option maxRecDepth 100000 in
set_option maxHeartbeats 8000000 in
theorem pow_q0_bad (f : ExP.Fr) (n p q r : Int) (w : World) (hw : XW w) (hw0 : 0 < w.heap.size) (h1 : f.1.length ≤ 9223372036854775807) (h2 : f.2.length ≤ 9223372036854775807) (p0 : -9223372036854775808 ≤ p) (p1 : p ≤ 9223372036854775807) (q0 : -9223372036854775808 ≤ q) (q1 : q ≤ 9223372036854775807)
    (hr : Int.tmod (Int.tmod n 41 + 41) 41 = r) (hr0 : 0 ≤ r) (hr1 : r < 41) (hq : q = 0) (hE : ExP.readE f ≠ 0) :
    Calls Tryz.prog 4 #[frV f, .int .i64 n, .int .i64 p, .int .i64 q] w fun e w' => e = .returned (.bool true) ∧ Below w.heap.size w w' := by
  have A0 := fun (w' : World) (h : Below w.heap.size w w') => fractions_any w' (hw.below h) (Nat.lt_of_lt_of_le hw0 h.size)
  have A1 := fun (w' : World) (h : Below w.heap.size w w') => ratio_any p q w' (hw.below h) (Nat.lt_of_lt_of_le hw0 h.size) p0 p1 q0 q1
  have A2 := fun (w' : World) (h : Below w.heap.size w w') => whole_any p w' (Nat.lt_of_lt_of_le hw0 h.size) p0 p1
  have A3 := fun (w' : World) (h : Below w.heap.size w w') => whole_any q w' (Nat.lt_of_lt_of_le hw0 h.size) q0 q1
  have A4 := fun (w' : World) (h : Below w.heap.size w w') => of_any p w' (hw.below h) p0 p1
  have A5 := fun w => mod41_any n r w hr
  have A6 := fun (w' : World) (h : Below w.heap.size w w') => fracError_any f w' (Nat.lt_of_lt_of_le hw0 h.size) h1 h2
  have LF := fun (F : ExP.Fr) (E : Int) (x : FrV) (w' : World) (h : Below w.heap.size w w') (hx : FrIn .i64 10 x w') (hO : OpI x.num F E) => lfrac_any F E x w' (Nat.lt_of_lt_of_le hw0 h.size) hx hO.d hO.n1 hO.n2 hO.hF hO.hE
  have RM := fun (x y : FrV) (w' : World) (h : Below w.heap.size w w') => rmul_any x y w' (Nat.lt_of_lt_of_le hw0 h.size)
  have np := nd_abs p0 p1
  have nq := nd_abs q0 q1
  have n1 := ExP.nd_one (b := 10) (by omega)
  have IO : OpI (ExP.wholeN p) (Lib.itoa p, [49]) 0 := ⟨Nat.one_pos, Nat.le_trans np (by omega), by show ExP.nd 10 1 ≤ 1000000; omega, (ExP.whole_write p p0 p1).1, (ExP.whole_write p p0 p1).2⟩
  rw [if_pos hq, if_pos hq] at A1
  generalize ExP.wholeN p = W at *
  generalize Lib.itoa p = tp at *
  obtain ⟨wm, wn, wd⟩ := W
  have A7 := fun (w' : World) (h : Below w.heap.size w w') => power_bad f (r - 20) w' (Nat.lt_of_lt_of_le hw0 h.size) h1 h2 hE
  obtain ⟨PF, hPF⟩ : ∃ PF : ExP.Fr, PF = ([], []) := ⟨_, rfl⟩
  generalize ExP.readE f = PE at *
  obtain ⟨f1, f2⟩ := f
  try dsimp only at *
  refine enter env_ok Tryz.func4 rfl Tryz.results4 Tryz.ntmps4 [] [200007, 200021] [.agg [.str f1, .str f2], .int .i64 n, .int .i64 p, .int .i64 q] (by simp [SV.oks, SV.ok]) (Nat.le_of_ble_eq_true rfl) w _ 1000 ?_
  repeat' (first | ((with_reducible first | show wpS _ _ _ _ | show putD _ _ _ _ | show putW _ _ _ _ | show splitG _ _ _ | show wpQ _ _ _ _ _ _ | show wpD _ _ _ _ _ _ _ | show wpX _ _ _ _ _ _ _ | show expX _ _ _ _ _ _ | show stepX _ _ _ _ | show keepR _ _ _ | show wpY _ _ _ _); conv => whnf) | ((with_reducible show RetN _ _ _); refine retB fun β => ?_) | ((with_reducible show _ ∧ _); first | (apply And.intro; (· intro h; exfalso; first | omega | (revert h; decide)); intro _) | (apply And.intro; rotate_left; (· intro h; exfalso; first | omega | (revert h; decide)); intro _) | (refine ⟨fun _ => ?_, fun _ => ?_⟩) | (apply And.intro; · kernel_rfl) | (apply And.intro; · (show inK _ _; unfold inK; omega)) | (apply And.intro; · (show (_ : Int) ≤ 9223372036854775807; (try simp only [List.length_append, List.length_drop, List.length_take, List.length_cons, List.length_nil]); omega))) | ((with_reducible show AllBe _); refine allBe fun βe => ?_; conv => whnf) | ((with_reducible show bothX _ _); refine bothI ?_ ?_; conv => whnf) | (with_reducible exact trivial) | ((with_reducible show CallN _ _ _ _ _ _ _ _); refine call_of env_ok rfl 1000 ?_) | ((with_reducible show XopN _ _ _ _ _ _); refine xop_of env_ok rfl 1000 ?_) | ((with_reducible show CallX _ _ _ _ _ _); first | (refine callX (.lit true) (by kernel_rfl) rfl (trivial) (fun β w hm => A0 w hm.below) ?_) | (refine callX (.tup [.agg [.str [], .str []], .int .i64 1]) (by kernel_rfl) rfl (⟨⟨trivial, trivial, trivial⟩, trivial, trivial⟩) (fun β w hm => A1 w hm.below) ?_) | (refine callX (.agg [.str tp, .str [49]]) (by kernel_rfl) rfl (⟨trivial, trivial, trivial⟩) (fun β w hm => A4 w hm.below) ?_) | (refine callFr .i64 10 ⟨wm, wn, wd⟩ hw0 (by kernel_rfl) rfl (fun β w' hm => A2 w' hm.below) (fun u3 v3 u4 v4 hcw => ?_)) | (refine callX (.lit true) (by kernel_rfl) rfl (trivial) (fun β w hm => LF (tp, [49]) 0 ⟨wm, wn, wd, u3, v3, u4, v4⟩ w hm.below (FrIn.of (by first | exact hm.slF 2 rfl | exact hm.slF 3 rfl | exact hm.slF 4 rfl | exact hm.slF 5 rfl | exact hm.slF 6 rfl | exact hm.slF 7 rfl | exact hm.slF 8 rfl | exact hm.slF 9 rfl | exact hm.slF 10 rfl | exact hm.slF 11 rfl | exact hm.slF 12 rfl | exact hm.slF 13 rfl | exact hm.slF 14 rfl | exact hm.slF 15 rfl | exact hm.slF 16 rfl | exact hm.slF 17 rfl | exact hm.slF 18 rfl | exact hm.slF 19 rfl) (by first | exact hm.slF 2 rfl | exact hm.slF 3 rfl | exact hm.slF 4 rfl | exact hm.slF 5 rfl | exact hm.slF 6 rfl | exact hm.slF 7 rfl | exact hm.slF 8 rfl | exact hm.slF 9 rfl | exact hm.slF 10 rfl | exact hm.slF 11 rfl | exact hm.slF 12 rfl | exact hm.slF 13 rfl | exact hm.slF 14 rfl | exact hm.slF 15 rfl | exact hm.slF 16 rfl | exact hm.slF 17 rfl | exact hm.slF 18 rfl | exact hm.slF 19 rfl) hcw) IO) ?_) | (refine callX (.int .i64 r) (by kernel_rfl) rfl (trivial) (fun β w hm => A5 w) ?_) | (refine callX (.tup [.agg [.str [], .str []], .int .i64 PE]) (by kernel_rfl) rfl (⟨⟨trivial, trivial, trivial⟩, trivial, trivial⟩) (fun β w hm => A7 w hm.below) ?_) | (refine callX (.int .i64 PE) (by kernel_rfl) rfl (trivial) (fun β w hm => A6 w hm.below) ?_)) | ((with_reducible show OpX _ _ _ _); first | fail) | ((with_reducible show ∃ _ : SV, _); first | fail) | ((with_reducible show ∃ _, _); first | (refine ⟨true, fracAggT _ _, ?_⟩)))
  all_goals first | rfl | (exfalso; omega) | (exfalso; simp_all; done) | (simp [SV.den]; done) | skip
set_option maxRecDepth 100000 in
set_option maxHeartbeats 8000000 in
theorem pow_q0_pos (f : ExP.Fr) (n p q r : Int) (w : World) (hw : XW w) (hw0 : 0 < w.heap.size) (h1 : f.1.length ≤ 9223372036854775807) (h2 : f.2.length ≤ 9223372036854775807) (p0 : -9223372036854775808 ≤ p) (p1 : p ≤ 9223372036854775807) (q0 : -9223372036854775808 ≤ q) (q1 : q ≤ 9223372036854775807)
    (hr : Int.tmod (Int.tmod n 41 + 41) 41 = r) (hr0 : 0 ≤ r) (hr1 : r < 41) (hq : q = 0) (hE : ExP.readE f = 0) (k : Nat) (hk : k ≤ 20) (hrk : r - 20 = (k : Int)) :
    Calls Tryz.prog 4 #[frV f, .int .i64 n, .int .i64 p, .int .i64 q] w fun e w' => e = .returned (.bool true) ∧ Below w.heap.size w w' := by
  have A0 := fun (w' : World) (h : Below w.heap.size w w') => fractions_any w' (hw.below h) (Nat.lt_of_lt_of_le hw0 h.size)
  have A1 := fun (w' : World) (h : Below w.heap.size w w') => ratio_any p q w' (hw.below h) (Nat.lt_of_lt_of_le hw0 h.size) p0 p1 q0 q1
  have A2 := fun (w' : World) (h : Below w.heap.size w w') => whole_any p w' (Nat.lt_of_lt_of_le hw0 h.size) p0 p1
  have A3 := fun (w' : World) (h : Below w.heap.size w w') => whole_any q w' (Nat.lt_of_lt_of_le hw0 h.size) q0 q1
  have A4 := fun (w' : World) (h : Below w.heap.size w w') => of_any p w' (hw.below h) p0 p1
  have A5 := fun w => mod41_any n r w hr
  have A6 := fun (w' : World) (h : Below w.heap.size w w') => fracError_any f w' (Nat.lt_of_lt_of_le hw0 h.size) h1 h2
  have LF := fun (F : ExP.Fr) (E : Int) (x : FrV) (w' : World) (h : Below w.heap.size w w') (hx : FrIn .i64 10 x w') (hO : OpI x.num F E) => lfrac_any F E x w' (Nat.lt_of_lt_of_le hw0 h.size) hx hO.d hO.n1 hO.n2 hO.hF hO.hE
  have RM := fun (x y : FrV) (w' : World) (h : Below w.heap.size w w') => rmul_any x y w' (Nat.lt_of_lt_of_le hw0 h.size)
  have np := nd_abs p0 p1
  have nq := nd_abs q0 q1
  have n1 := ExP.nd_one (b := 10) (by omega)
  have IO : OpI (ExP.wholeN p) (Lib.itoa p, [49]) 0 := ⟨Nat.one_pos, Nat.le_trans np (by omega), by show ExP.nd 10 1 ≤ 1000000; omega, (ExP.whole_write p p0 p1).1, (ExP.whole_write p p0 p1).2⟩
  rw [if_pos hq, if_pos hq] at A1
  generalize ExP.wholeN p = W at *
  generalize Lib.itoa p = tp at *
  obtain ⟨wm, wn, wd⟩ := W
  have A7 : ∀ w', Below w.heap.size w w' → Calls Tryz.prog 30 #[frV f, .int .i64 (r - 20)] w' (WrOut (ExP.writeF (ExP.powN (ExP.readN f) k)) (ExP.writeE (ExP.powN (ExP.readN f) k)) w') := fun (w' : World) (h : Below w.heap.size w w') => by rw [hrk]; exact power_pos f k w' (hw.below h) (Nat.lt_of_lt_of_le hw0 h.size) (by omega) h1 h2 hE
  rw [hE] at A6
  have A8 := fun (w' : World) (h : Below w.heap.size w w') => ratOf_any f w' (Nat.lt_of_lt_of_le hw0 h.size) hE
  obtain ⟨t1, t2, t3⟩ := ExP.read_nd hE (b := 10) (by omega)
  have IP := powI (k := k) (by omega) t1 t2 t3
  have RP := fun (x : FrV) (w' : World) (h : Below w.heap.size w w') => rpower_any x k w' (Nat.lt_of_lt_of_le hw0 h.size) (by omega)
  generalize ExP.readN f = X at *
  obtain ⟨xm, xn, xd⟩ := X
  try dsimp only [ExP.invN] at *
  have RP1 := fun a1 c1 a2 c2 => RP ⟨xm, xn, xd, a1, c1, a2, c2⟩
  dsimp only [FrV.num, FrV.val] at RP1
  generalize ExP.powN ⟨xm, xn, xd⟩ k = P at *
  generalize ExP.writeF P = PF at *
  generalize ExP.writeE P = PE at *
  obtain ⟨pm, pn, pd⟩ := P
  obtain ⟨P1, P2⟩ := PF
  obtain ⟨f1, f2⟩ := f
  try dsimp only at *
  refine enter env_ok Tryz.func4 rfl Tryz.results4 Tryz.ntmps4 [] [200007, 200021] [.agg [.str f1, .str f2], .int .i64 n, .int .i64 p, .int .i64 q] (by simp [SV.oks, SV.ok]) (Nat.le_of_ble_eq_true rfl) w _ 1000 ?_
  repeat' (first | ((with_reducible first | show wpS _ _ _ _ | show putD _ _ _ _ | show putW _ _ _ _ | show splitG _ _ _ | show wpQ _ _ _ _ _ _ | show wpD _ _ _ _ _ _ _ | show wpX _ _ _ _ _ _ _ | show expX _ _ _ _ _ _ | show stepX _ _ _ _ | show keepR _ _ _ | show wpY _ _ _ _); conv => whnf) | ((with_reducible show RetN _ _ _); refine retB fun β => ?_) | ((with_reducible show _ ∧ _); first | (apply And.intro; (· intro h; exfalso; first | omega | (revert h; decide)); intro _) | (apply And.intro; rotate_left; (· intro h; exfalso; first | omega | (revert h; decide)); intro _) | (refine ⟨fun _ => ?_, fun _ => ?_⟩) | (apply And.intro; · kernel_rfl) | (apply And.intro; · (show inK _ _; unfold inK; omega)) | (apply And.intro; · (show (_ : Int) ≤ 9223372036854775807; (try simp only [List.length_append, List.length_drop, List.length_take, List.length_cons, List.length_nil]); omega))) | ((with_reducible show AllBe _); refine allBe fun βe => ?_; conv => whnf) | ((with_reducible show bothX _ _); refine bothI ?_ ?_; conv => whnf) | (with_reducible exact trivial) | ((with_reducible show CallN _ _ _ _ _ _ _ _); refine call_of env_ok rfl 1000 ?_) | ((with_reducible show XopN _ _ _ _ _ _); refine xop_of env_ok rfl 1000 ?_) | ((with_reducible show CallX _ _ _ _ _ _); first | (refine callX (.lit true) (by kernel_rfl) rfl (trivial) (fun β w hm => A0 w hm.below) ?_) | (refine callX (.tup [.agg [.str [], .str []], .int .i64 1]) (by kernel_rfl) rfl (⟨⟨trivial, trivial, trivial⟩, trivial, trivial⟩) (fun β w hm => A1 w hm.below) ?_) | (refine callX (.agg [.str tp, .str [49]]) (by kernel_rfl) rfl (⟨trivial, trivial, trivial⟩) (fun β w hm => A4 w hm.below) ?_) | (refine callFr .i64 10 ⟨wm, wn, wd⟩ hw0 (by kernel_rfl) rfl (fun β w' hm => A2 w' hm.below) (fun u3 v3 u4 v4 hcw => ?_)) | (refine callX (.lit true) (by kernel_rfl) rfl (trivial) (fun β w hm => LF (tp, [49]) 0 ⟨wm, wn, wd, u3, v3, u4, v4⟩ w hm.below (FrIn.of (by first | exact hm.slF 2 rfl | exact hm.slF 3 rfl | exact hm.slF 4 rfl | exact hm.slF 5 rfl | exact hm.slF 6 rfl | exact hm.slF 7 rfl | exact hm.slF 8 rfl | exact hm.slF 9 rfl | exact hm.slF 10 rfl | exact hm.slF 11 rfl | exact hm.slF 12 rfl | exact hm.slF 13 rfl | exact hm.slF 14 rfl | exact hm.slF 15 rfl | exact hm.slF 16 rfl | exact hm.slF 17 rfl | exact hm.slF 18 rfl | exact hm.slF 19 rfl) (by first | exact hm.slF 2 rfl | exact hm.slF 3 rfl | exact hm.slF 4 rfl | exact hm.slF 5 rfl | exact hm.slF 6 rfl | exact hm.slF 7 rfl | exact hm.slF 8 rfl | exact hm.slF 9 rfl | exact hm.slF 10 rfl | exact hm.slF 11 rfl | exact hm.slF 12 rfl | exact hm.slF 13 rfl | exact hm.slF 14 rfl | exact hm.slF 15 rfl | exact hm.slF 16 rfl | exact hm.slF 17 rfl | exact hm.slF 18 rfl | exact hm.slF 19 rfl) hcw) IO) ?_) | (refine callX (.int .i64 r) (by kernel_rfl) rfl (trivial) (fun β w hm => A5 w) ?_) | (refine callX (.tup [.agg [.str P1, .str P2], .int .i64 PE]) (by kernel_rfl) rfl (⟨⟨trivial, trivial, trivial⟩, trivial, trivial⟩) (fun β w hm => A7 w hm.below) ?_) | (refine callX (.int .i64 0) (by kernel_rfl) rfl (trivial) (fun β w hm => A6 w hm.below) ?_) | (refine callFr .i64 10 ⟨xm, xn, xd⟩ hw0 (by kernel_rfl) rfl (fun β w' hm => A8 w' hm.below) (fun g1 d1 g2 d2 hcx => ?_)) | (refine callFr .i64 10 ⟨pm, pn, pd⟩ hw0 (by kernel_rfl) rfl (fun β w' hm => by simp only [SV.dens, SV.den]; rw [hrk]; exact RP1 g1 d1 g2 d2 w' hm.below (FrIn.of (by first | exact hm.slF 2 rfl | exact hm.slF 3 rfl | exact hm.slF 4 rfl | exact hm.slF 5 rfl | exact hm.slF 6 rfl | exact hm.slF 7 rfl | exact hm.slF 8 rfl | exact hm.slF 9 rfl | exact hm.slF 10 rfl | exact hm.slF 11 rfl | exact hm.slF 12 rfl | exact hm.slF 13 rfl | exact hm.slF 14 rfl | exact hm.slF 15 rfl | exact hm.slF 16 rfl | exact hm.slF 17 rfl | exact hm.slF 18 rfl | exact hm.slF 19 rfl) (by first | exact hm.slF 2 rfl | exact hm.slF 3 rfl | exact hm.slF 4 rfl | exact hm.slF 5 rfl | exact hm.slF 6 rfl | exact hm.slF 7 rfl | exact hm.slF 8 rfl | exact hm.slF 9 rfl | exact hm.slF 10 rfl | exact hm.slF 11 rfl | exact hm.slF 12 rfl | exact hm.slF 13 rfl | exact hm.slF 14 rfl | exact hm.slF 15 rfl | exact hm.slF 16 rfl | exact hm.slF 17 rfl | exact hm.slF 18 rfl | exact hm.slF 19 rfl) hcx) (by omega) (by omega)) (fun u7 v7 u8 v8 hcp2 => ?_)) | (refine callX (.lit true) (by kernel_rfl) rfl (trivial) (fun β w hm => LF (P1, P2) PE ⟨pm, pn, pd, u7, v7, u8, v8⟩ w hm.below (FrIn.of (by first | exact hm.slF 2 rfl | exact hm.slF 3 rfl | exact hm.slF 4 rfl | exact hm.slF 5 rfl | exact hm.slF 6 rfl | exact hm.slF 7 rfl | exact hm.slF 8 rfl | exact hm.slF 9 rfl | exact hm.slF 10 rfl | exact hm.slF 11 rfl | exact hm.slF 12 rfl | exact hm.slF 13 rfl | exact hm.slF 14 rfl | exact hm.slF 15 rfl | exact hm.slF 16 rfl | exact hm.slF 17 rfl | exact hm.slF 18 rfl | exact hm.slF 19 rfl) (by first | exact hm.slF 2 rfl | exact hm.slF 3 rfl | exact hm.slF 4 rfl | exact hm.slF 5 rfl | exact hm.slF 6 rfl | exact hm.slF 7 rfl | exact hm.slF 8 rfl | exact hm.slF 9 rfl | exact hm.slF 10 rfl | exact hm.slF 11 rfl | exact hm.slF 12 rfl | exact hm.slF 13 rfl | exact hm.slF 14 rfl | exact hm.slF 15 rfl | exact hm.slF 16 rfl | exact hm.slF 17 rfl | exact hm.slF 18 rfl | exact hm.slF 19 rfl) hcp2) IP) ?_)) | ((with_reducible show OpX _ _ _ _); first | fail) | ((with_reducible show ∃ _ : SV, _); first | fail) | ((with_reducible show ∃ _, _); first | (refine ⟨true, fracAggT _ _, ?_⟩)))
  all_goals first | rfl | (exfalso; omega) | (exfalso; simp_all; done) | (simp [SV.den]; done) | skip
set_option maxRecDepth 100000 in
set_option maxHeartbeats 8000000 in
theorem pow_q0_zero (f : ExP.Fr) (n p q r : Int) (w : World) (hw : XW w) (hw0 : 0 < w.heap.size) (h1 : f.1.length ≤ 9223372036854775807) (h2 : f.2.length ≤ 9223372036854775807) (p0 : -9223372036854775808 ≤ p) (p1 : p ≤ 9223372036854775807) (q0 : -9223372036854775808 ≤ q) (q1 : q ≤ 9223372036854775807)
    (hr : Int.tmod (Int.tmod n 41 + 41) 41 = r) (hr0 : 0 ≤ r) (hr1 : r < 41) (hq : q = 0) (hE : ExP.readE f = 0) (k : Nat) (hk : k ≤ 20) (hk0 : 0 < k) (hrk : r - 20 = -(k : Int)) (hx0 : (ExP.readN f).n = 0) :
    Calls Tryz.prog 4 #[frV f, .int .i64 n, .int .i64 p, .int .i64 q] w fun e w' => e = .returned (.bool true) ∧ Below w.heap.size w w' := by
  have A0 := fun (w' : World) (h : Below w.heap.size w w') => fractions_any w' (hw.below h) (Nat.lt_of_lt_of_le hw0 h.size)
  have A1 := fun (w' : World) (h : Below w.heap.size w w') => ratio_any p q w' (hw.below h) (Nat.lt_of_lt_of_le hw0 h.size) p0 p1 q0 q1
  have A2 := fun (w' : World) (h : Below w.heap.size w w') => whole_any p w' (Nat.lt_of_lt_of_le hw0 h.size) p0 p1
  have A3 := fun (w' : World) (h : Below w.heap.size w w') => whole_any q w' (Nat.lt_of_lt_of_le hw0 h.size) q0 q1
  have A4 := fun (w' : World) (h : Below w.heap.size w w') => of_any p w' (hw.below h) p0 p1
  have A5 := fun w => mod41_any n r w hr
  have A6 := fun (w' : World) (h : Below w.heap.size w w') => fracError_any f w' (Nat.lt_of_lt_of_le hw0 h.size) h1 h2
  have LF := fun (F : ExP.Fr) (E : Int) (x : FrV) (w' : World) (h : Below w.heap.size w w') (hx : FrIn .i64 10 x w') (hO : OpI x.num F E) => lfrac_any F E x w' (Nat.lt_of_lt_of_le hw0 h.size) hx hO.d hO.n1 hO.n2 hO.hF hO.hE
  have RM := fun (x y : FrV) (w' : World) (h : Below w.heap.size w w') => rmul_any x y w' (Nat.lt_of_lt_of_le hw0 h.size)
  have np := nd_abs p0 p1
  have nq := nd_abs q0 q1
  have n1 := ExP.nd_one (b := 10) (by omega)
  have IO : OpI (ExP.wholeN p) (Lib.itoa p, [49]) 0 := ⟨Nat.one_pos, Nat.le_trans np (by omega), by show ExP.nd 10 1 ≤ 1000000; omega, (ExP.whole_write p p0 p1).1, (ExP.whole_write p p0 p1).2⟩
  rw [if_pos hq, if_pos hq] at A1
  generalize ExP.wholeN p = W at *
  generalize Lib.itoa p = tp at *
  obtain ⟨wm, wn, wd⟩ := W
  have A7 : ∀ w', Below w.heap.size w w' → Calls Tryz.prog 30 #[frV f, .int .i64 (r - 20)] w' (WrOut ([], []) 1 w') := fun (w' : World) (h : Below w.heap.size w w') => by rw [hrk]; exact power_zero f k w' (Nat.lt_of_lt_of_le hw0 h.size) (by omega) h1 h2 hE hk0 hx0
  rw [hE] at A6
  have A8 := fun (w' : World) (h : Below w.heap.size w w') => ratOf_any f w' (Nat.lt_of_lt_of_le hw0 h.size) hE
  obtain ⟨t1, t2, t3⟩ := ExP.read_nd hE (b := 10) (by omega)
  generalize ExP.readN f = X at *
  obtain ⟨xm, xn, xd⟩ := X
  try dsimp only [ExP.invN] at *
  have hz := fun a b c e w' => rsign_any xm a b xn c (ExP.nd 10 xd) e w'
  rw [if_pos hx0] at hz
  obtain ⟨f1, f2⟩ := f
  try dsimp only at *
  refine enter env_ok Tryz.func4 rfl Tryz.results4 Tryz.ntmps4 [] [200007, 200021] [.agg [.str f1, .str f2], .int .i64 n, .int .i64 p, .int .i64 q] (by simp [SV.oks, SV.ok]) (Nat.le_of_ble_eq_true rfl) w _ 1000 ?_
  repeat' (first | ((with_reducible first | show wpS _ _ _ _ | show putD _ _ _ _ | show putW _ _ _ _ | show splitG _ _ _ | show wpQ _ _ _ _ _ _ | show wpD _ _ _ _ _ _ _ | show wpX _ _ _ _ _ _ _ | show expX _ _ _ _ _ _ | show stepX _ _ _ _ | show keepR _ _ _ | show wpY _ _ _ _); conv => whnf) | ((with_reducible show RetN _ _ _); refine retB fun β => ?_) | ((with_reducible show _ ∧ _); first | (apply And.intro; (· intro h; exfalso; first | omega | (revert h; decide)); intro _) | (apply And.intro; rotate_left; (· intro h; exfalso; first | omega | (revert h; decide)); intro _) | (refine ⟨fun _ => ?_, fun _ => ?_⟩) | (apply And.intro; · kernel_rfl) | (apply And.intro; · (show inK _ _; unfold inK; omega)) | (apply And.intro; · (show (_ : Int) ≤ 9223372036854775807; (try simp only [List.length_append, List.length_drop, List.length_take, List.length_cons, List.length_nil]); omega))) | ((with_reducible show AllBe _); refine allBe fun βe => ?_; conv => whnf) | ((with_reducible show bothX _ _); refine bothI ?_ ?_; conv => whnf) | (with_reducible exact trivial) | ((with_reducible show CallN _ _ _ _ _ _ _ _); refine call_of env_ok rfl 1000 ?_) | ((with_reducible show XopN _ _ _ _ _ _); refine xop_of env_ok rfl 1000 ?_) | ((with_reducible show CallX _ _ _ _ _ _); first | (refine callX (.lit true) (by kernel_rfl) rfl (trivial) (fun β w hm => A0 w hm.below) ?_) | (refine callX (.tup [.agg [.str [], .str []], .int .i64 1]) (by kernel_rfl) rfl (⟨⟨trivial, trivial, trivial⟩, trivial, trivial⟩) (fun β w hm => A1 w hm.below) ?_) | (refine callX (.agg [.str tp, .str [49]]) (by kernel_rfl) rfl (⟨trivial, trivial, trivial⟩) (fun β w hm => A4 w hm.below) ?_) | (refine callFr .i64 10 ⟨wm, wn, wd⟩ hw0 (by kernel_rfl) rfl (fun β w' hm => A2 w' hm.below) (fun u3 v3 u4 v4 hcw => ?_)) | (refine callX (.lit true) (by kernel_rfl) rfl (trivial) (fun β w hm => LF (tp, [49]) 0 ⟨wm, wn, wd, u3, v3, u4, v4⟩ w hm.below (FrIn.of (by first | exact hm.slF 2 rfl | exact hm.slF 3 rfl | exact hm.slF 4 rfl | exact hm.slF 5 rfl | exact hm.slF 6 rfl | exact hm.slF 7 rfl | exact hm.slF 8 rfl | exact hm.slF 9 rfl | exact hm.slF 10 rfl | exact hm.slF 11 rfl | exact hm.slF 12 rfl | exact hm.slF 13 rfl | exact hm.slF 14 rfl | exact hm.slF 15 rfl | exact hm.slF 16 rfl | exact hm.slF 17 rfl | exact hm.slF 18 rfl | exact hm.slF 19 rfl) (by first | exact hm.slF 2 rfl | exact hm.slF 3 rfl | exact hm.slF 4 rfl | exact hm.slF 5 rfl | exact hm.slF 6 rfl | exact hm.slF 7 rfl | exact hm.slF 8 rfl | exact hm.slF 9 rfl | exact hm.slF 10 rfl | exact hm.slF 11 rfl | exact hm.slF 12 rfl | exact hm.slF 13 rfl | exact hm.slF 14 rfl | exact hm.slF 15 rfl | exact hm.slF 16 rfl | exact hm.slF 17 rfl | exact hm.slF 18 rfl | exact hm.slF 19 rfl) hcw) IO) ?_) | (refine callX (.int .i64 r) (by kernel_rfl) rfl (trivial) (fun β w hm => A5 w) ?_) | (refine callX (.tup [.agg [.str [], .str []], .int .i64 1]) (by kernel_rfl) rfl (⟨⟨trivial, trivial, trivial⟩, trivial, trivial⟩) (fun β w hm => A7 w hm.below) ?_) | (refine callX (.int .i64 0) (by kernel_rfl) rfl (trivial) (fun β w hm => A6 w hm.below) ?_) | (refine callFr .i64 10 ⟨xm, xn, xd⟩ hw0 (by kernel_rfl) rfl (fun β w' hm => A8 w' hm.below) (fun g1 d1 g2 d2 hcx => ?_)) | (refine callX (.int .i64 0) (by kernel_rfl) rfl (trivial) (fun β w hm => hz g1 g2 d1 d2 w) ?_)) | ((with_reducible show OpX _ _ _ _); first | fail) | ((with_reducible show ∃ _ : SV, _); first | fail) | ((with_reducible show ∃ _, _); first | (refine ⟨true, fracAggT _ _, ?_⟩)))
  all_goals first | rfl | (exfalso; omega) | (exfalso; simp_all; done) | (simp [SV.den]; done) | skip
set_option maxRecDepth 100000 in
set_option maxHeartbeats 8000000 in
theorem pow_q0_neg (f : ExP.Fr) (n p q r : Int) (w : World) (hw : XW w) (hw0 : 0 < w.heap.size) (h1 : f.1.length ≤ 9223372036854775807) (h2 : f.2.length ≤ 9223372036854775807) (p0 : -9223372036854775808 ≤ p) (p1 : p ≤ 9223372036854775807) (q0 : -9223372036854775808 ≤ q) (q1 : q ≤ 9223372036854775807)
    (hr : Int.tmod (Int.tmod n 41 + 41) 41 = r) (hr0 : 0 ≤ r) (hr1 : r < 41) (hq : q = 0) (hE : ExP.readE f = 0) (k : Nat) (hk : k ≤ 20) (hk0 : 0 < k) (hrk : r - 20 = -(k : Int)) (hx0 : (ExP.readN f).n ≠ 0) :
    Calls Tryz.prog 4 #[frV f, .int .i64 n, .int .i64 p, .int .i64 q] w fun e w' => e = .returned (.bool true) ∧ Below w.heap.size w w' := by
  have A0 := fun (w' : World) (h : Below w.heap.size w w') => fractions_any w' (hw.below h) (Nat.lt_of_lt_of_le hw0 h.size)
  have A1 := fun (w' : World) (h : Below w.heap.size w w') => ratio_any p q w' (hw.below h) (Nat.lt_of_lt_of_le hw0 h.size) p0 p1 q0 q1
  have A2 := fun (w' : World) (h : Below w.heap.size w w') => whole_any p w' (Nat.lt_of_lt_of_le hw0 h.size) p0 p1
  have A3 := fun (w' : World) (h : Below w.heap.size w w') => whole_any q w' (Nat.lt_of_lt_of_le hw0 h.size) q0 q1
  have A4 := fun (w' : World) (h : Below w.heap.size w w') => of_any p w' (hw.below h) p0 p1
  have A5 := fun w => mod41_any n r w hr
  have A6 := fun (w' : World) (h : Below w.heap.size w w') => fracError_any f w' (Nat.lt_of_lt_of_le hw0 h.size) h1 h2
  have LF := fun (F : ExP.Fr) (E : Int) (x : FrV) (w' : World) (h : Below w.heap.size w w') (hx : FrIn .i64 10 x w') (hO : OpI x.num F E) => lfrac_any F E x w' (Nat.lt_of_lt_of_le hw0 h.size) hx hO.d hO.n1 hO.n2 hO.hF hO.hE
  have RM := fun (x y : FrV) (w' : World) (h : Below w.heap.size w w') => rmul_any x y w' (Nat.lt_of_lt_of_le hw0 h.size)
  have np := nd_abs p0 p1
  have nq := nd_abs q0 q1
  have n1 := ExP.nd_one (b := 10) (by omega)
  have IO : OpI (ExP.wholeN p) (Lib.itoa p, [49]) 0 := ⟨Nat.one_pos, Nat.le_trans np (by omega), by show ExP.nd 10 1 ≤ 1000000; omega, (ExP.whole_write p p0 p1).1, (ExP.whole_write p p0 p1).2⟩
  rw [if_pos hq, if_pos hq] at A1
  generalize ExP.wholeN p = W at *
  generalize Lib.itoa p = tp at *
  obtain ⟨wm, wn, wd⟩ := W
  have A7 : ∀ w', Below w.heap.size w w' → Calls Tryz.prog 30 #[frV f, .int .i64 (r - 20)] w' (WrOut (ExP.writeF (ExP.powN (ExP.invN (ExP.readN f)) k)) (ExP.writeE (ExP.powN (ExP.invN (ExP.readN f)) k)) w') := fun (w' : World) (h : Below w.heap.size w w') => by rw [hrk]; exact power_neg f k w' (hw.below h) (Nat.lt_of_lt_of_le hw0 h.size) (by omega) h1 h2 hE hk0 hx0
  rw [hE] at A6
  have A8 := fun (w' : World) (h : Below w.heap.size w w') => ratOf_any f w' (Nat.lt_of_lt_of_le hw0 h.size) hE
  obtain ⟨t1, t2, t3⟩ := ExP.read_nd hE (b := 10) (by omega)
  have IP := powI (x := ExP.invN (ExP.readN f)) (k := k) (by omega) t2 t1 (Nat.pos_of_ne_zero hx0)
  have RP := fun (x : FrV) (w' : World) (h : Below w.heap.size w w') => rpower_any x k w' (Nat.lt_of_lt_of_le hw0 h.size) (by omega)
  generalize ExP.readN f = X at *
  obtain ⟨xm, xn, xd⟩ := X
  try dsimp only [ExP.invN] at *
  have RP1 := fun a1 c1 a2 c2 => RP ⟨xm, xd, xn, a1, c1, a2, c2⟩
  dsimp only [FrV.num, FrV.val] at RP1
  generalize ExP.powN ⟨xm, xd, xn⟩ k = P at *
  generalize ExP.writeF P = PF at *
  generalize ExP.writeE P = PE at *
  obtain ⟨pm, pn, pd⟩ := P
  obtain ⟨P1, P2⟩ := PF
  have hz := fun a b c e w' => rsign_any xm a b xn c (ExP.nd 10 xd) e w'
  rw [if_neg hx0] at hz
  obtain ⟨sy, hsy0⟩ : ∃ sy : Int, sy = if xm = true then -1 else 1 := ⟨_, rfl⟩
  rw [← hsy0] at hz
  have hsy1 : sy ≠ 0 := by rw [hsy0]; split <;> decide
  clear hsy0
  obtain ⟨f1, f2⟩ := f
  try dsimp only at *
  refine enter env_ok Tryz.func4 rfl Tryz.results4 Tryz.ntmps4 [] [200007, 200021] [.agg [.str f1, .str f2], .int .i64 n, .int .i64 p, .int .i64 q] (by simp [SV.oks, SV.ok]) (Nat.le_of_ble_eq_true rfl) w _ 1000 ?_
  repeat' (first | ((with_reducible first | show wpS _ _ _ _ | show putD _ _ _ _ | show putW _ _ _ _ | show splitG _ _ _ | show wpQ _ _ _ _ _ _ | show wpD _ _ _ _ _ _ _ | show wpX _ _ _ _ _ _ _ | show expX _ _ _ _ _ _ | show stepX _ _ _ _ | show keepR _ _ _ | show wpY _ _ _ _); conv => whnf) | ((with_reducible show RetN _ _ _); refine retB fun β => ?_) | ((with_reducible show _ ∧ _); first | (apply And.intro; (· intro h; exfalso; first | omega | (revert h; decide)); intro _) | (apply And.intro; rotate_left; (· intro h; exfalso; first | omega | (revert h; decide)); intro _) | (refine ⟨fun _ => ?_, fun _ => ?_⟩) | (apply And.intro; · kernel_rfl) | (apply And.intro; · (show inK _ _; unfold inK; omega)) | (apply And.intro; · (show (_ : Int) ≤ 9223372036854775807; (try simp only [List.length_append, List.length_drop, List.length_take, List.length_cons, List.length_nil]); omega))) | ((with_reducible show AllBe _); refine allBe fun βe => ?_; conv => whnf) | ((with_reducible show bothX _ _); refine bothI ?_ ?_; conv => whnf) | (with_reducible exact trivial) | ((with_reducible show CallN _ _ _ _ _ _ _ _); refine call_of env_ok rfl 1000 ?_) | ((with_reducible show XopN _ _ _ _ _ _); refine xop_of env_ok rfl 1000 ?_) | ((with_reducible show CallX _ _ _ _ _ _); first | (refine callX (.lit true) (by kernel_rfl) rfl (trivial) (fun β w hm => A0 w hm.below) ?_) | (refine callX (.tup [.agg [.str [], .str []], .int .i64 1]) (by kernel_rfl) rfl (⟨⟨trivial, trivial, trivial⟩, trivial, trivial⟩) (fun β w hm => A1 w hm.below) ?_) | (refine callX (.agg [.str tp, .str [49]]) (by kernel_rfl) rfl (⟨trivial, trivial, trivial⟩) (fun β w hm => A4 w hm.below) ?_) | (refine callFr .i64 10 ⟨wm, wn, wd⟩ hw0 (by kernel_rfl) rfl (fun β w' hm => A2 w' hm.below) (fun u3 v3 u4 v4 hcw => ?_)) | (refine callX (.lit true) (by kernel_rfl) rfl (trivial) (fun β w hm => LF (tp, [49]) 0 ⟨wm, wn, wd, u3, v3, u4, v4⟩ w hm.below (FrIn.of (by first | exact hm.slF 2 rfl | exact hm.slF 3 rfl | exact hm.slF 4 rfl | exact hm.slF 5 rfl | exact hm.slF 6 rfl | exact hm.slF 7 rfl | exact hm.slF 8 rfl | exact hm.slF 9 rfl | exact hm.slF 10 rfl | exact hm.slF 11 rfl | exact hm.slF 12 rfl | exact hm.slF 13 rfl | exact hm.slF 14 rfl | exact hm.slF 15 rfl | exact hm.slF 16 rfl | exact hm.slF 17 rfl | exact hm.slF 18 rfl | exact hm.slF 19 rfl) (by first | exact hm.slF 2 rfl | exact hm.slF 3 rfl | exact hm.slF 4 rfl | exact hm.slF 5 rfl | exact hm.slF 6 rfl | exact hm.slF 7 rfl | exact hm.slF 8 rfl | exact hm.slF 9 rfl | exact hm.slF 10 rfl | exact hm.slF 11 rfl | exact hm.slF 12 rfl | exact hm.slF 13 rfl | exact hm.slF 14 rfl | exact hm.slF 15 rfl | exact hm.slF 16 rfl | exact hm.slF 17 rfl | exact hm.slF 18 rfl | exact hm.slF 19 rfl) hcw) IO) ?_) | (refine callX (.int .i64 r) (by kernel_rfl) rfl (trivial) (fun β w hm => A5 w) ?_) | (refine callX (.tup [.agg [.str P1, .str P2], .int .i64 PE]) (by kernel_rfl) rfl (⟨⟨trivial, trivial, trivial⟩, trivial, trivial⟩) (fun β w hm => A7 w hm.below) ?_) | (refine callX (.int .i64 0) (by kernel_rfl) rfl (trivial) (fun β w hm => A6 w hm.below) ?_) | (refine callFr .i64 10 ⟨xm, xn, xd⟩ hw0 (by kernel_rfl) rfl (fun β w' hm => A8 w' hm.below) (fun g1 d1 g2 d2 hcx => ?_)) | (refine callX (.int .i64 sy) (by kernel_rfl) rfl (trivial) (fun β w hm => hz g1 g2 d1 d2 w) ?_) | (refine callX (.agg [.bool xm, .any (.slice g2 (ExP.nd 10 xd) d2), .any (.slice g1 (ExP.nd 10 xn) d1)]) (by kernel_rfl) rfl (⟨trivial, rfl, rfl, trivial⟩) (fun β w hm => rinv_any xm g1 g2 _ d1 _ d2 w) ?_) | (refine callFr .i64 10 ⟨pm, pn, pd⟩ hw0 (by kernel_rfl) rfl (fun β w' hm => by simp only [SV.dens, SV.den]; rw [hrk, Int.zero_sub, Int.neg_neg]; exact RP1 g2 d2 g1 d1 w' hm.below (FrIn.of (by first | exact hm.slF 2 rfl | exact hm.slF 3 rfl | exact hm.slF 4 rfl | exact hm.slF 5 rfl | exact hm.slF 6 rfl | exact hm.slF 7 rfl | exact hm.slF 8 rfl | exact hm.slF 9 rfl | exact hm.slF 10 rfl | exact hm.slF 11 rfl | exact hm.slF 12 rfl | exact hm.slF 13 rfl | exact hm.slF 14 rfl | exact hm.slF 15 rfl | exact hm.slF 16 rfl | exact hm.slF 17 rfl | exact hm.slF 18 rfl | exact hm.slF 19 rfl) (by first | exact hm.slF 2 rfl | exact hm.slF 3 rfl | exact hm.slF 4 rfl | exact hm.slF 5 rfl | exact hm.slF 6 rfl | exact hm.slF 7 rfl | exact hm.slF 8 rfl | exact hm.slF 9 rfl | exact hm.slF 10 rfl | exact hm.slF 11 rfl | exact hm.slF 12 rfl | exact hm.slF 13 rfl | exact hm.slF 14 rfl | exact hm.slF 15 rfl | exact hm.slF 16 rfl | exact hm.slF 17 rfl | exact hm.slF 18 rfl | exact hm.slF 19 rfl) ⟨hcx.bn, hcx.an, hcx.cd, hcx.cn⟩) (by omega) (by omega)) (fun u7 v7 u8 v8 hcp2 => ?_)) | (refine callX (.lit true) (by kernel_rfl) rfl (trivial) (fun β w hm => LF (P1, P2) PE ⟨pm, pn, pd, u7, v7, u8, v8⟩ w hm.below (FrIn.of (by first | exact hm.slF 2 rfl | exact hm.slF 3 rfl | exact hm.slF 4 rfl | exact hm.slF 5 rfl | exact hm.slF 6 rfl | exact hm.slF 7 rfl | exact hm.slF 8 rfl | exact hm.slF 9 rfl | exact hm.slF 10 rfl | exact hm.slF 11 rfl | exact hm.slF 12 rfl | exact hm.slF 13 rfl | exact hm.slF 14 rfl | exact hm.slF 15 rfl | exact hm.slF 16 rfl | exact hm.slF 17 rfl | exact hm.slF 18 rfl | exact hm.slF 19 rfl) (by first | exact hm.slF 2 rfl | exact hm.slF 3 rfl | exact hm.slF 4 rfl | exact hm.slF 5 rfl | exact hm.slF 6 rfl | exact hm.slF 7 rfl | exact hm.slF 8 rfl | exact hm.slF 9 rfl | exact hm.slF 10 rfl | exact hm.slF 11 rfl | exact hm.slF 12 rfl | exact hm.slF 13 rfl | exact hm.slF 14 rfl | exact hm.slF 15 rfl | exact hm.slF 16 rfl | exact hm.slF 17 rfl | exact hm.slF 18 rfl | exact hm.slF 19 rfl) hcp2) IP) ?_)) | ((with_reducible show OpX _ _ _ _); first | fail) | ((with_reducible show ∃ _ : SV, _); first | fail) | ((with_reducible show ∃ _, _); first | (refine ⟨true, fracAggT _ _, ?_⟩)))
  all_goals first | rfl | (exfalso; omega) | (exfalso; simp_all; done) | (simp [SV.den]; done) | skip
set_option maxRecDepth 100000 in
set_option maxHeartbeats 8000000 in
theorem pow_q1_bad (f : ExP.Fr) (n p q r : Int) (w : World) (hw : XW w) (hw0 : 0 < w.heap.size) (h1 : f.1.length ≤ 9223372036854775807) (h2 : f.2.length ≤ 9223372036854775807) (p0 : -9223372036854775808 ≤ p) (p1 : p ≤ 9223372036854775807) (q0 : -9223372036854775808 ≤ q) (q1 : q ≤ 9223372036854775807)
    (hr : Int.tmod (Int.tmod n 41 + 41) 41 = r) (hr0 : 0 ≤ r) (hr1 : r < 41) (hq : q ≠ 0) (hE : ExP.readE f ≠ 0) :
    Calls Tryz.prog 4 #[frV f, .int .i64 n, .int .i64 p, .int .i64 q] w fun e w' => e = .returned (.bool true) ∧ Below w.heap.size w w' := by
  have A0 := fun (w' : World) (h : Below w.heap.size w w') => fractions_any w' (hw.below h) (Nat.lt_of_lt_of_le hw0 h.size)
  have A1 := fun (w' : World) (h : Below w.heap.size w w') => ratio_any p q w' (hw.below h) (Nat.lt_of_lt_of_le hw0 h.size) p0 p1 q0 q1
  have A2 := fun (w' : World) (h : Below w.heap.size w w') => whole_any p w' (Nat.lt_of_lt_of_le hw0 h.size) p0 p1
  have A3 := fun (w' : World) (h : Below w.heap.size w w') => whole_any q w' (Nat.lt_of_lt_of_le hw0 h.size) q0 q1
  have A4 := fun (w' : World) (h : Below w.heap.size w w') => of_any p w' (hw.below h) p0 p1
  have A5 := fun w => mod41_any n r w hr
  have A6 := fun (w' : World) (h : Below w.heap.size w w') => fracError_any f w' (Nat.lt_of_lt_of_le hw0 h.size) h1 h2
  have LF := fun (F : ExP.Fr) (E : Int) (x : FrV) (w' : World) (h : Below w.heap.size w w') (hx : FrIn .i64 10 x w') (hO : OpI x.num F E) => lfrac_any F E x w' (Nat.lt_of_lt_of_le hw0 h.size) hx hO.d hO.n1 hO.n2 hO.hF hO.hE
  have RM := fun (x y : FrV) (w' : World) (h : Below w.heap.size w w') => rmul_any x y w' (Nat.lt_of_lt_of_le hw0 h.size)
  have np := nd_abs p0 p1
  have nq := nd_abs q0 q1
  have n1 := ExP.nd_one (b := 10) (by omega)
  have IO : OpI (ExP.wholeN p) (Lib.itoa p, [49]) 0 := ⟨Nat.one_pos, Nat.le_trans np (by omega), by show ExP.nd 10 1 ≤ 1000000; omega, (ExP.whole_write p p0 p1).1, (ExP.whole_write p p0 p1).2⟩
  rw [if_neg hq, if_neg hq] at A1
  have hmul := ExP.ratio_mul p q
  have IR : OpI (ExP.ratioN p q) (ExP.writeF (ExP.ratioN p q)) (ExP.writeE (ExP.ratioN p q)) := ⟨by show 0 < q.natAbs; omega, by show ExP.nd 10 p.natAbs ≤ 1000000; omega, by show ExP.nd 10 q.natAbs ≤ 1000000; omega, rfl, rfl⟩
  have RM1 := fun a1 c1 a2 c2 b1 e1 b2 e2 => RM ⟨(ExP.wholeN p).m, (ExP.wholeN p).n, (ExP.wholeN p).d, a1, c1, a2, c2⟩ ⟨(ExP.wholeN q).m, (ExP.wholeN q).d, (ExP.wholeN q).n, b1, e1, b2, e2⟩
  simp only [FrV.num, FrV.val] at RM1
  change ∀ a1 c1 a2 c2 b1 e1 b2 e2 w', _ → _ → _ → _ → _ → _ → _ → Calls _ _ _ _ (FrOut .i64 10 (ExP.mulN (ExP.wholeN p) (ExP.invN (ExP.wholeN q))) w') at RM1
  rw [hmul] at RM1
  have wp1 : ExP.nd 10 (ExP.wholeN p).n ≤ 20 := np
  have wp2 : ExP.nd 10 (ExP.wholeN p).d ≤ 20 := by show ExP.nd 10 1 ≤ 20; omega
  have wq1 : ExP.nd 10 (ExP.wholeN q).n ≤ 20 := nq
  have wq2 : ExP.nd 10 (ExP.wholeN q).d ≤ 20 := by show ExP.nd 10 1 ≤ 20; omega
  generalize ExP.ratioN p q = RN at *
  generalize ExP.writeF RN = RF at *
  generalize ExP.writeE RN = RE at *
  generalize ExP.wholeN q = Q at *
  obtain ⟨rm, rn, rd⟩ := RN
  obtain ⟨R1, R2⟩ := RF
  obtain ⟨qm, qn, qd⟩ := Q
  generalize ExP.wholeN p = W at *
  generalize Lib.itoa p = tp at *
  obtain ⟨wm, wn, wd⟩ := W
  have A7 := fun (w' : World) (h : Below w.heap.size w w') => power_bad f (r - 20) w' (Nat.lt_of_lt_of_le hw0 h.size) h1 h2 hE
  obtain ⟨PF, hPF⟩ : ∃ PF : ExP.Fr, PF = ([], []) := ⟨_, rfl⟩
  generalize ExP.readE f = PE at *
  obtain ⟨f1, f2⟩ := f
  try dsimp only at *
  refine enter env_ok Tryz.func4 rfl Tryz.results4 Tryz.ntmps4 [] [200007, 200021] [.agg [.str f1, .str f2], .int .i64 n, .int .i64 p, .int .i64 q] (by simp [SV.oks, SV.ok]) (Nat.le_of_ble_eq_true rfl) w _ 1000 ?_
  repeat' (first | ((with_reducible first | show wpS _ _ _ _ | show putD _ _ _ _ | show putW _ _ _ _ | show splitG _ _ _ | show wpQ _ _ _ _ _ _ | show wpD _ _ _ _ _ _ _ | show wpX _ _ _ _ _ _ _ | show expX _ _ _ _ _ _ | show stepX _ _ _ _ | show keepR _ _ _ | show wpY _ _ _ _); conv => whnf) | ((with_reducible show RetN _ _ _); refine retB fun β => ?_) | ((with_reducible show _ ∧ _); first | (apply And.intro; (· intro h; exfalso; first | omega | (revert h; decide)); intro _) | (apply And.intro; rotate_left; (· intro h; exfalso; first | omega | (revert h; decide)); intro _) | (refine ⟨fun _ => ?_, fun _ => ?_⟩) | (apply And.intro; · kernel_rfl) | (apply And.intro; · (show inK _ _; unfold inK; omega)) | (apply And.intro; · (show (_ : Int) ≤ 9223372036854775807; (try simp only [List.length_append, List.length_drop, List.length_take, List.length_cons, List.length_nil]); omega))) | ((with_reducible show AllBe _); refine allBe fun βe => ?_; conv => whnf) | ((with_reducible show bothX _ _); refine bothI ?_ ?_; conv => whnf) | (with_reducible exact trivial) | ((with_reducible show CallN _ _ _ _ _ _ _ _); refine call_of env_ok rfl 1000 ?_) | ((with_reducible show XopN _ _ _ _ _ _); refine xop_of env_ok rfl 1000 ?_) | ((with_reducible show CallX _ _ _ _ _ _); first | (refine callX (.lit true) (by kernel_rfl) rfl (trivial) (fun β w hm => A0 w hm.below) ?_) | (refine callX (.tup [.agg [.str R1, .str R2], .int .i64 RE]) (by kernel_rfl) rfl (⟨⟨trivial, trivial, trivial⟩, trivial, trivial⟩) (fun β w hm => A1 w hm.below) ?_) | (refine callFr .i64 10 ⟨wm, wn, wd⟩ hw0 (by kernel_rfl) rfl (fun β w' hm => A2 w' hm.below) (fun a1 c1 a2 c2 hcp => ?_)) | (refine callFr .i64 10 ⟨qm, qn, qd⟩ hw0 (by kernel_rfl) rfl (fun β w' hm => A3 w' hm.below) (fun b1 e1 b2 e2 hcq => ?_)) | (refine callX (.agg [.bool qm, .any (.slice b2 (ExP.nd 10 qd) e2), .any (.slice b1 (ExP.nd 10 qn) e1)]) (by kernel_rfl) rfl (⟨trivial, rfl, rfl, trivial⟩) (fun β w hm => rinv_any qm b1 b2 _ e1 _ e2 w) ?_) | (refine callFr .i64 10 ⟨rm, rn, rd⟩ hw0 (by kernel_rfl) rfl (fun β w' hm => RM1 a1 c1 a2 c2 b2 e2 b1 e1 w' hm.below (FrIn.of (by first | exact hm.slF 2 rfl | exact hm.slF 3 rfl | exact hm.slF 4 rfl | exact hm.slF 5 rfl | exact hm.slF 6 rfl | exact hm.slF 7 rfl | exact hm.slF 8 rfl | exact hm.slF 9 rfl | exact hm.slF 10 rfl | exact hm.slF 11 rfl | exact hm.slF 12 rfl | exact hm.slF 13 rfl) (by first | exact hm.slF 2 rfl | exact hm.slF 3 rfl | exact hm.slF 4 rfl | exact hm.slF 5 rfl | exact hm.slF 6 rfl | exact hm.slF 7 rfl | exact hm.slF 8 rfl | exact hm.slF 9 rfl | exact hm.slF 10 rfl | exact hm.slF 11 rfl | exact hm.slF 12 rfl | exact hm.slF 13 rfl) hcp) (FrIn.of (by first | exact hm.slF 2 rfl | exact hm.slF 3 rfl | exact hm.slF 4 rfl | exact hm.slF 5 rfl | exact hm.slF 6 rfl | exact hm.slF 7 rfl | exact hm.slF 8 rfl | exact hm.slF 9 rfl | exact hm.slF 10 rfl | exact hm.slF 11 rfl | exact hm.slF 12 rfl | exact hm.slF 13 rfl) (by first | exact hm.slF 2 rfl | exact hm.slF 3 rfl | exact hm.slF 4 rfl | exact hm.slF 5 rfl | exact hm.slF 6 rfl | exact hm.slF 7 rfl | exact hm.slF 8 rfl | exact hm.slF 9 rfl | exact hm.slF 10 rfl | exact hm.slF 11 rfl | exact hm.slF 12 rfl | exact hm.slF 13 rfl) ⟨hcq.bn, hcq.an, hcq.cd, hcq.cn⟩) (by omega) (by omega) (by omega) (by omega)) (fun u1 v1 u2 v2 hcr => ?_)) | (refine callX (.lit true) (by kernel_rfl) rfl (trivial) (fun β w hm => LF (R1, R2) RE ⟨rm, rn, rd, u1, v1, u2, v2⟩ w hm.below (FrIn.of (by first | exact hm.slF 2 rfl | exact hm.slF 3 rfl | exact hm.slF 4 rfl | exact hm.slF 5 rfl | exact hm.slF 6 rfl | exact hm.slF 7 rfl | exact hm.slF 8 rfl | exact hm.slF 9 rfl | exact hm.slF 10 rfl | exact hm.slF 11 rfl | exact hm.slF 12 rfl | exact hm.slF 13 rfl) (by first | exact hm.slF 2 rfl | exact hm.slF 3 rfl | exact hm.slF 4 rfl | exact hm.slF 5 rfl | exact hm.slF 6 rfl | exact hm.slF 7 rfl | exact hm.slF 8 rfl | exact hm.slF 9 rfl | exact hm.slF 10 rfl | exact hm.slF 11 rfl | exact hm.slF 12 rfl | exact hm.slF 13 rfl) hcr) IR) ?_) | (refine callX (.agg [.str tp, .str [49]]) (by kernel_rfl) rfl (⟨trivial, trivial, trivial⟩) (fun β w hm => A4 w hm.below) ?_) | (refine callFr .i64 10 ⟨wm, wn, wd⟩ hw0 (by kernel_rfl) rfl (fun β w' hm => A2 w' hm.below) (fun u3 v3 u4 v4 hcw => ?_)) | (refine callX (.lit true) (by kernel_rfl) rfl (trivial) (fun β w hm => LF (tp, [49]) 0 ⟨wm, wn, wd, a1, c1, a2, c2⟩ w hm.below (FrIn.of (by first | exact hm.slF 2 rfl | exact hm.slF 3 rfl | exact hm.slF 4 rfl | exact hm.slF 5 rfl | exact hm.slF 6 rfl | exact hm.slF 7 rfl | exact hm.slF 8 rfl | exact hm.slF 9 rfl | exact hm.slF 10 rfl | exact hm.slF 11 rfl | exact hm.slF 12 rfl | exact hm.slF 13 rfl | exact hm.slF 14 rfl | exact hm.slF 15 rfl | exact hm.slF 16 rfl | exact hm.slF 17 rfl | exact hm.slF 18 rfl | exact hm.slF 19 rfl) (by first | exact hm.slF 2 rfl | exact hm.slF 3 rfl | exact hm.slF 4 rfl | exact hm.slF 5 rfl | exact hm.slF 6 rfl | exact hm.slF 7 rfl | exact hm.slF 8 rfl | exact hm.slF 9 rfl | exact hm.slF 10 rfl | exact hm.slF 11 rfl | exact hm.slF 12 rfl | exact hm.slF 13 rfl | exact hm.slF 14 rfl | exact hm.slF 15 rfl | exact hm.slF 16 rfl | exact hm.slF 17 rfl | exact hm.slF 18 rfl | exact hm.slF 19 rfl) hcp) IO) ?_) | (refine callX (.int .i64 r) (by kernel_rfl) rfl (trivial) (fun β w hm => A5 w) ?_) | (refine callX (.tup [.agg [.str [], .str []], .int .i64 PE]) (by kernel_rfl) rfl (⟨⟨trivial, trivial, trivial⟩, trivial, trivial⟩) (fun β w hm => A7 w hm.below) ?_) | (refine callX (.int .i64 PE) (by kernel_rfl) rfl (trivial) (fun β w hm => A6 w hm.below) ?_)) | ((with_reducible show OpX _ _ _ _); first | fail) | ((with_reducible show ∃ _ : SV, _); first | fail) | ((with_reducible show ∃ _, _); first | (refine ⟨true, fracAggT _ _, ?_⟩)))
  all_goals first | rfl | (exfalso; omega) | (exfalso; simp_all; done) | (simp [SV.den]; done) | skip
set_option maxRecDepth 100000 in
set_option maxHeartbeats 8000000 in
theorem pow_q1_pos (f : ExP.Fr) (n p q r : Int) (w : World) (hw : XW w) (hw0 : 0 < w.heap.size) (h1 : f.1.length ≤ 9223372036854775807) (h2 : f.2.length ≤ 9223372036854775807) (p0 : -9223372036854775808 ≤ p) (p1 : p ≤ 9223372036854775807) (q0 : -9223372036854775808 ≤ q) (q1 : q ≤ 9223372036854775807)
    (hr : Int.tmod (Int.tmod n 41 + 41) 41 = r) (hr0 : 0 ≤ r) (hr1 : r < 41) (hq : q ≠ 0) (hE : ExP.readE f = 0) (k : Nat) (hk : k ≤ 20) (hrk : r - 20 = (k : Int)) :
    Calls Tryz.prog 4 #[frV f, .int .i64 n, .int .i64 p, .int .i64 q] w fun e w' => e = .returned (.bool true) ∧ Below w.heap.size w w' := by
  have A0 := fun (w' : World) (h : Below w.heap.size w w') => fractions_any w' (hw.below h) (Nat.lt_of_lt_of_le hw0 h.size)
  have A1 := fun (w' : World) (h : Below w.heap.size w w') => ratio_any p q w' (hw.below h) (Nat.lt_of_lt_of_le hw0 h.size) p0 p1 q0 q1
  have A2 := fun (w' : World) (h : Below w.heap.size w w') => whole_any p w' (Nat.lt_of_lt_of_le hw0 h.size) p0 p1
  have A3 := fun (w' : World) (h : Below w.heap.size w w') => whole_any q w' (Nat.lt_of_lt_of_le hw0 h.size) q0 q1
  have A4 := fun (w' : World) (h : Below w.heap.size w w') => of_any p w' (hw.below h) p0 p1
  have A5 := fun w => mod41_any n r w hr
  have A6 := fun (w' : World) (h : Below w.heap.size w w') => fracError_any f w' (Nat.lt_of_lt_of_le hw0 h.size) h1 h2
  have LF := fun (F : ExP.Fr) (E : Int) (x : FrV) (w' : World) (h : Below w.heap.size w w') (hx : FrIn .i64 10 x w') (hO : OpI x.num F E) => lfrac_any F E x w' (Nat.lt_of_lt_of_le hw0 h.size) hx hO.d hO.n1 hO.n2 hO.hF hO.hE
  have RM := fun (x y : FrV) (w' : World) (h : Below w.heap.size w w') => rmul_any x y w' (Nat.lt_of_lt_of_le hw0 h.size)
  have np := nd_abs p0 p1
  have nq := nd_abs q0 q1
  have n1 := ExP.nd_one (b := 10) (by omega)
  have IO : OpI (ExP.wholeN p) (Lib.itoa p, [49]) 0 := ⟨Nat.one_pos, Nat.le_trans np (by omega), by show ExP.nd 10 1 ≤ 1000000; omega, (ExP.whole_write p p0 p1).1, (ExP.whole_write p p0 p1).2⟩
  rw [if_neg hq, if_neg hq] at A1
  have hmul := ExP.ratio_mul p q
  have IR : OpI (ExP.ratioN p q) (ExP.writeF (ExP.ratioN p q)) (ExP.writeE (ExP.ratioN p q)) := ⟨by show 0 < q.natAbs; omega, by show ExP.nd 10 p.natAbs ≤ 1000000; omega, by show ExP.nd 10 q.natAbs ≤ 1000000; omega, rfl, rfl⟩
  have RM1 := fun a1 c1 a2 c2 b1 e1 b2 e2 => RM ⟨(ExP.wholeN p).m, (ExP.wholeN p).n, (ExP.wholeN p).d, a1, c1, a2, c2⟩ ⟨(ExP.wholeN q).m, (ExP.wholeN q).d, (ExP.wholeN q).n, b1, e1, b2, e2⟩
  simp only [FrV.num, FrV.val] at RM1
  change ∀ a1 c1 a2 c2 b1 e1 b2 e2 w', _ → _ → _ → _ → _ → _ → _ → Calls _ _ _ _ (FrOut .i64 10 (ExP.mulN (ExP.wholeN p) (ExP.invN (ExP.wholeN q))) w') at RM1
  rw [hmul] at RM1
  have wp1 : ExP.nd 10 (ExP.wholeN p).n ≤ 20 := np
  have wp2 : ExP.nd 10 (ExP.wholeN p).d ≤ 20 := by show ExP.nd 10 1 ≤ 20; omega
  have wq1 : ExP.nd 10 (ExP.wholeN q).n ≤ 20 := nq
  have wq2 : ExP.nd 10 (ExP.wholeN q).d ≤ 20 := by show ExP.nd 10 1 ≤ 20; omega
  generalize ExP.ratioN p q = RN at *
  generalize ExP.writeF RN = RF at *
  generalize ExP.writeE RN = RE at *
  generalize ExP.wholeN q = Q at *
  obtain ⟨rm, rn, rd⟩ := RN
  obtain ⟨R1, R2⟩ := RF
  obtain ⟨qm, qn, qd⟩ := Q
  generalize ExP.wholeN p = W at *
  generalize Lib.itoa p = tp at *
  obtain ⟨wm, wn, wd⟩ := W
  have A7 : ∀ w', Below w.heap.size w w' → Calls Tryz.prog 30 #[frV f, .int .i64 (r - 20)] w' (WrOut (ExP.writeF (ExP.powN (ExP.readN f) k)) (ExP.writeE (ExP.powN (ExP.readN f) k)) w') := fun (w' : World) (h : Below w.heap.size w w') => by rw [hrk]; exact power_pos f k w' (hw.below h) (Nat.lt_of_lt_of_le hw0 h.size) (by omega) h1 h2 hE
  rw [hE] at A6
  have A8 := fun (w' : World) (h : Below w.heap.size w w') => ratOf_any f w' (Nat.lt_of_lt_of_le hw0 h.size) hE
  obtain ⟨t1, t2, t3⟩ := ExP.read_nd hE (b := 10) (by omega)
  have IP := powI (k := k) (by omega) t1 t2 t3
  have RP := fun (x : FrV) (w' : World) (h : Below w.heap.size w w') => rpower_any x k w' (Nat.lt_of_lt_of_le hw0 h.size) (by omega)
  generalize ExP.readN f = X at *
  obtain ⟨xm, xn, xd⟩ := X
  try dsimp only [ExP.invN] at *
  have RP1 := fun a1 c1 a2 c2 => RP ⟨xm, xn, xd, a1, c1, a2, c2⟩
  dsimp only [FrV.num, FrV.val] at RP1
  generalize ExP.powN ⟨xm, xn, xd⟩ k = P at *
  generalize ExP.writeF P = PF at *
  generalize ExP.writeE P = PE at *
  obtain ⟨pm, pn, pd⟩ := P
  obtain ⟨P1, P2⟩ := PF
  obtain ⟨f1, f2⟩ := f
  try dsimp only at *
  refine enter env_ok Tryz.func4 rfl Tryz.results4 Tryz.ntmps4 [] [200007, 200021] [.agg [.str f1, .str f2], .int .i64 n, .int .i64 p, .int .i64 q] (by simp [SV.oks, SV.ok]) (Nat.le_of_ble_eq_true rfl) w _ 1000 ?_
  repeat' (first | ((with_reducible first | show wpS _ _ _ _ | show putD _ _ _ _ | show putW _ _ _ _ | show splitG _ _ _ | show wpQ _ _ _ _ _ _ | show wpD _ _ _ _ _ _ _ | show wpX _ _ _ _ _ _ _ | show expX _ _ _ _ _ _ | show stepX _ _ _ _ | show keepR _ _ _ | show wpY _ _ _ _); conv => whnf) | ((with_reducible show RetN _ _ _); refine retB fun β => ?_) | ((with_reducible show _ ∧ _); first | (apply And.intro; (· intro h; exfalso; first | omega | (revert h; decide)); intro _) | (apply And.intro; rotate_left; (· intro h; exfalso; first | omega | (revert h; decide)); intro _) | (refine ⟨fun _ => ?_, fun _ => ?_⟩) | (apply And.intro; · kernel_rfl) | (apply And.intro; · (show inK _ _; unfold inK; omega)) | (apply And.intro; · (show (_ : Int) ≤ 9223372036854775807; (try simp only [List.length_append, List.length_drop, List.length_take, List.length_cons, List.length_nil]); omega))) | ((with_reducible show AllBe _); refine allBe fun βe => ?_; conv => whnf) | ((with_reducible show bothX _ _); refine bothI ?_ ?_; conv => whnf) | (with_reducible exact trivial) | ((with_reducible show CallN _ _ _ _ _ _ _ _); refine call_of env_ok rfl 1000 ?_) | ((with_reducible show XopN _ _ _ _ _ _); refine xop_of env_ok rfl 1000 ?_) | ((with_reducible show CallX _ _ _ _ _ _); first | (refine callX (.lit true) (by kernel_rfl) rfl (trivial) (fun β w hm => A0 w hm.below) ?_) | (refine callX (.tup [.agg [.str R1, .str R2], .int .i64 RE]) (by kernel_rfl) rfl (⟨⟨trivial, trivial, trivial⟩, trivial, trivial⟩) (fun β w hm => A1 w hm.below) ?_) | (refine callFr .i64 10 ⟨wm, wn, wd⟩ hw0 (by kernel_rfl) rfl (fun β w' hm => A2 w' hm.below) (fun a1 c1 a2 c2 hcp => ?_)) | (refine callFr .i64 10 ⟨qm, qn, qd⟩ hw0 (by kernel_rfl) rfl (fun β w' hm => A3 w' hm.below) (fun b1 e1 b2 e2 hcq => ?_)) | (refine callX (.agg [.bool qm, .any (.slice b2 (ExP.nd 10 qd) e2), .any (.slice b1 (ExP.nd 10 qn) e1)]) (by kernel_rfl) rfl (⟨trivial, rfl, rfl, trivial⟩) (fun β w hm => rinv_any qm b1 b2 _ e1 _ e2 w) ?_) | (refine callFr .i64 10 ⟨rm, rn, rd⟩ hw0 (by kernel_rfl) rfl (fun β w' hm => RM1 a1 c1 a2 c2 b2 e2 b1 e1 w' hm.below (FrIn.of (by first | exact hm.slF 2 rfl | exact hm.slF 3 rfl | exact hm.slF 4 rfl | exact hm.slF 5 rfl | exact hm.slF 6 rfl | exact hm.slF 7 rfl | exact hm.slF 8 rfl | exact hm.slF 9 rfl | exact hm.slF 10 rfl | exact hm.slF 11 rfl | exact hm.slF 12 rfl | exact hm.slF 13 rfl) (by first | exact hm.slF 2 rfl | exact hm.slF 3 rfl | exact hm.slF 4 rfl | exact hm.slF 5 rfl | exact hm.slF 6 rfl | exact hm.slF 7 rfl | exact hm.slF 8 rfl | exact hm.slF 9 rfl | exact hm.slF 10 rfl | exact hm.slF 11 rfl | exact hm.slF 12 rfl | exact hm.slF 13 rfl) hcp) (FrIn.of (by first | exact hm.slF 2 rfl | exact hm.slF 3 rfl | exact hm.slF 4 rfl | exact hm.slF 5 rfl | exact hm.slF 6 rfl | exact hm.slF 7 rfl | exact hm.slF 8 rfl | exact hm.slF 9 rfl | exact hm.slF 10 rfl | exact hm.slF 11 rfl | exact hm.slF 12 rfl | exact hm.slF 13 rfl) (by first | exact hm.slF 2 rfl | exact hm.slF 3 rfl | exact hm.slF 4 rfl | exact hm.slF 5 rfl | exact hm.slF 6 rfl | exact hm.slF 7 rfl | exact hm.slF 8 rfl | exact hm.slF 9 rfl | exact hm.slF 10 rfl | exact hm.slF 11 rfl | exact hm.slF 12 rfl | exact hm.slF 13 rfl) ⟨hcq.bn, hcq.an, hcq.cd, hcq.cn⟩) (by omega) (by omega) (by omega) (by omega)) (fun u1 v1 u2 v2 hcr => ?_)) | (refine callX (.lit true) (by kernel_rfl) rfl (trivial) (fun β w hm => LF (R1, R2) RE ⟨rm, rn, rd, u1, v1, u2, v2⟩ w hm.below (FrIn.of (by first | exact hm.slF 2 rfl | exact hm.slF 3 rfl | exact hm.slF 4 rfl | exact hm.slF 5 rfl | exact hm.slF 6 rfl | exact hm.slF 7 rfl | exact hm.slF 8 rfl | exact hm.slF 9 rfl | exact hm.slF 10 rfl | exact hm.slF 11 rfl | exact hm.slF 12 rfl | exact hm.slF 13 rfl) (by first | exact hm.slF 2 rfl | exact hm.slF 3 rfl | exact hm.slF 4 rfl | exact hm.slF 5 rfl | exact hm.slF 6 rfl | exact hm.slF 7 rfl | exact hm.slF 8 rfl | exact hm.slF 9 rfl | exact hm.slF 10 rfl | exact hm.slF 11 rfl | exact hm.slF 12 rfl | exact hm.slF 13 rfl) hcr) IR) ?_) | (refine callX (.agg [.str tp, .str [49]]) (by kernel_rfl) rfl (⟨trivial, trivial, trivial⟩) (fun β w hm => A4 w hm.below) ?_) | (refine callFr .i64 10 ⟨wm, wn, wd⟩ hw0 (by kernel_rfl) rfl (fun β w' hm => A2 w' hm.below) (fun u3 v3 u4 v4 hcw => ?_)) | (refine callX (.lit true) (by kernel_rfl) rfl (trivial) (fun β w hm => LF (tp, [49]) 0 ⟨wm, wn, wd, a1, c1, a2, c2⟩ w hm.below (FrIn.of (by first | exact hm.slF 2 rfl | exact hm.slF 3 rfl | exact hm.slF 4 rfl | exact hm.slF 5 rfl | exact hm.slF 6 rfl | exact hm.slF 7 rfl | exact hm.slF 8 rfl | exact hm.slF 9 rfl | exact hm.slF 10 rfl | exact hm.slF 11 rfl | exact hm.slF 12 rfl | exact hm.slF 13 rfl | exact hm.slF 14 rfl | exact hm.slF 15 rfl | exact hm.slF 16 rfl | exact hm.slF 17 rfl | exact hm.slF 18 rfl | exact hm.slF 19 rfl) (by first | exact hm.slF 2 rfl | exact hm.slF 3 rfl | exact hm.slF 4 rfl | exact hm.slF 5 rfl | exact hm.slF 6 rfl | exact hm.slF 7 rfl | exact hm.slF 8 rfl | exact hm.slF 9 rfl | exact hm.slF 10 rfl | exact hm.slF 11 rfl | exact hm.slF 12 rfl | exact hm.slF 13 rfl | exact hm.slF 14 rfl | exact hm.slF 15 rfl | exact hm.slF 16 rfl | exact hm.slF 17 rfl | exact hm.slF 18 rfl | exact hm.slF 19 rfl) hcp) IO) ?_) | (refine callX (.int .i64 r) (by kernel_rfl) rfl (trivial) (fun β w hm => A5 w) ?_) | (refine callX (.tup [.agg [.str P1, .str P2], .int .i64 PE]) (by kernel_rfl) rfl (⟨⟨trivial, trivial, trivial⟩, trivial, trivial⟩) (fun β w hm => A7 w hm.below) ?_) | (refine callX (.int .i64 0) (by kernel_rfl) rfl (trivial) (fun β w hm => A6 w hm.below) ?_) | (refine callFr .i64 10 ⟨xm, xn, xd⟩ hw0 (by kernel_rfl) rfl (fun β w' hm => A8 w' hm.below) (fun g1 d1 g2 d2 hcx => ?_)) | (refine callFr .i64 10 ⟨pm, pn, pd⟩ hw0 (by kernel_rfl) rfl (fun β w' hm => by simp only [SV.dens, SV.den]; rw [hrk]; exact RP1 g1 d1 g2 d2 w' hm.below (FrIn.of (by first | exact hm.slF 2 rfl | exact hm.slF 3 rfl | exact hm.slF 4 rfl | exact hm.slF 5 rfl | exact hm.slF 6 rfl | exact hm.slF 7 rfl | exact hm.slF 8 rfl | exact hm.slF 9 rfl | exact hm.slF 10 rfl | exact hm.slF 11 rfl | exact hm.slF 12 rfl | exact hm.slF 13 rfl | exact hm.slF 14 rfl | exact hm.slF 15 rfl | exact hm.slF 16 rfl | exact hm.slF 17 rfl | exact hm.slF 18 rfl | exact hm.slF 19 rfl) (by first | exact hm.slF 2 rfl | exact hm.slF 3 rfl | exact hm.slF 4 rfl | exact hm.slF 5 rfl | exact hm.slF 6 rfl | exact hm.slF 7 rfl | exact hm.slF 8 rfl | exact hm.slF 9 rfl | exact hm.slF 10 rfl | exact hm.slF 11 rfl | exact hm.slF 12 rfl | exact hm.slF 13 rfl | exact hm.slF 14 rfl | exact hm.slF 15 rfl | exact hm.slF 16 rfl | exact hm.slF 17 rfl | exact hm.slF 18 rfl | exact hm.slF 19 rfl) hcx) (by omega) (by omega)) (fun u7 v7 u8 v8 hcp2 => ?_)) | (refine callX (.lit true) (by kernel_rfl) rfl (trivial) (fun β w hm => LF (P1, P2) PE ⟨pm, pn, pd, u7, v7, u8, v8⟩ w hm.below (FrIn.of (by first | exact hm.slF 2 rfl | exact hm.slF 3 rfl | exact hm.slF 4 rfl | exact hm.slF 5 rfl | exact hm.slF 6 rfl | exact hm.slF 7 rfl | exact hm.slF 8 rfl | exact hm.slF 9 rfl | exact hm.slF 10 rfl | exact hm.slF 11 rfl | exact hm.slF 12 rfl | exact hm.slF 13 rfl | exact hm.slF 14 rfl | exact hm.slF 15 rfl | exact hm.slF 16 rfl | exact hm.slF 17 rfl | exact hm.slF 18 rfl | exact hm.slF 19 rfl) (by first | exact hm.slF 2 rfl | exact hm.slF 3 rfl | exact hm.slF 4 rfl | exact hm.slF 5 rfl | exact hm.slF 6 rfl | exact hm.slF 7 rfl | exact hm.slF 8 rfl | exact hm.slF 9 rfl | exact hm.slF 10 rfl | exact hm.slF 11 rfl | exact hm.slF 12 rfl | exact hm.slF 13 rfl | exact hm.slF 14 rfl | exact hm.slF 15 rfl | exact hm.slF 16 rfl | exact hm.slF 17 rfl | exact hm.slF 18 rfl | exact hm.slF 19 rfl) hcp2) IP) ?_)) | ((with_reducible show OpX _ _ _ _); first | fail) | ((with_reducible show ∃ _ : SV, _); first | fail) | ((with_reducible show ∃ _, _); first | (refine ⟨true, fracAggT _ _, ?_⟩)))
  all_goals first | rfl | (exfalso; omega) | (exfalso; simp_all; done) | (simp [SV.den]; done) | skip
set_option maxRecDepth 100000 in
set_option maxHeartbeats 8000000 in
theorem pow_q1_zero (f : ExP.Fr) (n p q r : Int) (w : World) (hw : XW w) (hw0 : 0 < w.heap.size) (h1 : f.1.length ≤ 9223372036854775807) (h2 : f.2.length ≤ 9223372036854775807) (p0 : -9223372036854775808 ≤ p) (p1 : p ≤ 9223372036854775807) (q0 : -9223372036854775808 ≤ q) (q1 : q ≤ 9223372036854775807)
    (hr : Int.tmod (Int.tmod n 41 + 41) 41 = r) (hr0 : 0 ≤ r) (hr1 : r < 41) (hq : q ≠ 0) (hE : ExP.readE f = 0) (k : Nat) (hk : k ≤ 20) (hk0 : 0 < k) (hrk : r - 20 = -(k : Int)) (hx0 : (ExP.readN f).n = 0) :
    Calls Tryz.prog 4 #[frV f, .int .i64 n, .int .i64 p, .int .i64 q] w fun e w' => e = .returned (.bool true) ∧ Below w.heap.size w w' := by
  have A0 := fun (w' : World) (h : Below w.heap.size w w') => fractions_any w' (hw.below h) (Nat.lt_of_lt_of_le hw0 h.size)
  have A1 := fun (w' : World) (h : Below w.heap.size w w') => ratio_any p q w' (hw.below h) (Nat.lt_of_lt_of_le hw0 h.size) p0 p1 q0 q1
  have A2 := fun (w' : World) (h : Below w.heap.size w w') => whole_any p w' (Nat.lt_of_lt_of_le hw0 h.size) p0 p1
  have A3 := fun (w' : World) (h : Below w.heap.size w w') => whole_any q w' (Nat.lt_of_lt_of_le hw0 h.size) q0 q1
  have A4 := fun (w' : World) (h : Below w.heap.size w w') => of_any p w' (hw.below h) p0 p1
  have A5 := fun w => mod41_any n r w hr
  have A6 := fun (w' : World) (h : Below w.heap.size w w') => fracError_any f w' (Nat.lt_of_lt_of_le hw0 h.size) h1 h2
  have LF := fun (F : ExP.Fr) (E : Int) (x : FrV) (w' : World) (h : Below w.heap.size w w') (hx : FrIn .i64 10 x w') (hO : OpI x.num F E) => lfrac_any F E x w' (Nat.lt_of_lt_of_le hw0 h.size) hx hO.d hO.n1 hO.n2 hO.hF hO.hE
  have RM := fun (x y : FrV) (w' : World) (h : Below w.heap.size w w') => rmul_any x y w' (Nat.lt_of_lt_of_le hw0 h.size)
  have np := nd_abs p0 p1
  have nq := nd_abs q0 q1
  have n1 := ExP.nd_one (b := 10) (by omega)
  have IO : OpI (ExP.wholeN p) (Lib.itoa p, [49]) 0 := ⟨Nat.one_pos, Nat.le_trans np (by omega), by show ExP.nd 10 1 ≤ 1000000; omega, (ExP.whole_write p p0 p1).1, (ExP.whole_write p p0 p1).2⟩
  rw [if_neg hq, if_neg hq] at A1
  have hmul := ExP.ratio_mul p q
  have IR : OpI (ExP.ratioN p q) (ExP.writeF (ExP.ratioN p q)) (ExP.writeE (ExP.ratioN p q)) := ⟨by show 0 < q.natAbs; omega, by show ExP.nd 10 p.natAbs ≤ 1000000; omega, by show ExP.nd 10 q.natAbs ≤ 1000000; omega, rfl, rfl⟩
  have RM1 := fun a1 c1 a2 c2 b1 e1 b2 e2 => RM ⟨(ExP.wholeN p).m, (ExP.wholeN p).n, (ExP.wholeN p).d, a1, c1, a2, c2⟩ ⟨(ExP.wholeN q).m, (ExP.wholeN q).d, (ExP.wholeN q).n, b1, e1, b2, e2⟩
  simp only [FrV.num, FrV.val] at RM1
  change ∀ a1 c1 a2 c2 b1 e1 b2 e2 w', _ → _ → _ → _ → _ → _ → _ → Calls _ _ _ _ (FrOut .i64 10 (ExP.mulN (ExP.wholeN p) (ExP.invN (ExP.wholeN q))) w') at RM1
  rw [hmul] at RM1
  have wp1 : ExP.nd 10 (ExP.wholeN p).n ≤ 20 := np
  have wp2 : ExP.nd 10 (ExP.wholeN p).d ≤ 20 := by show ExP.nd 10 1 ≤ 20; omega
  have wq1 : ExP.nd 10 (ExP.wholeN q).n ≤ 20 := nq
  have wq2 : ExP.nd 10 (ExP.wholeN q).d ≤ 20 := by show ExP.nd 10 1 ≤ 20; omega
  generalize ExP.ratioN p q = RN at *
  generalize ExP.writeF RN = RF at *
  generalize ExP.writeE RN = RE at *
  generalize ExP.wholeN q = Q at *
  obtain ⟨rm, rn, rd⟩ := RN
  obtain ⟨R1, R2⟩ := RF
  obtain ⟨qm, qn, qd⟩ := Q
  generalize ExP.wholeN p = W at *
  generalize Lib.itoa p = tp at *
  obtain ⟨wm, wn, wd⟩ := W
  have A7 : ∀ w', Below w.heap.size w w' → Calls Tryz.prog 30 #[frV f, .int .i64 (r - 20)] w' (WrOut ([], []) 1 w') := fun (w' : World) (h : Below w.heap.size w w') => by rw [hrk]; exact power_zero f k w' (Nat.lt_of_lt_of_le hw0 h.size) (by omega) h1 h2 hE hk0 hx0
  rw [hE] at A6
  have A8 := fun (w' : World) (h : Below w.heap.size w w') => ratOf_any f w' (Nat.lt_of_lt_of_le hw0 h.size) hE
  obtain ⟨t1, t2, t3⟩ := ExP.read_nd hE (b := 10) (by omega)
  generalize ExP.readN f = X at *
  obtain ⟨xm, xn, xd⟩ := X
  try dsimp only [ExP.invN] at *
  have hz := fun a b c e w' => rsign_any xm a b xn c (ExP.nd 10 xd) e w'
  rw [if_pos hx0] at hz
  obtain ⟨f1, f2⟩ := f
  try dsimp only at *
  refine enter env_ok Tryz.func4 rfl Tryz.results4 Tryz.ntmps4 [] [200007, 200021] [.agg [.str f1, .str f2], .int .i64 n, .int .i64 p, .int .i64 q] (by simp [SV.oks, SV.ok]) (Nat.le_of_ble_eq_true rfl) w _ 1000 ?_
  repeat' (first | ((with_reducible first | show wpS _ _ _ _ | show putD _ _ _ _ | show putW _ _ _ _ | show splitG _ _ _ | show wpQ _ _ _ _ _ _ | show wpD _ _ _ _ _ _ _ | show wpX _ _ _ _ _ _ _ | show expX _ _ _ _ _ _ | show stepX _ _ _ _ | show keepR _ _ _ | show wpY _ _ _ _); conv => whnf) | ((with_reducible show RetN _ _ _); refine retB fun β => ?_) | ((with_reducible show _ ∧ _); first | (apply And.intro; (· intro h; exfalso; first | omega | (revert h; decide)); intro _) | (apply And.intro; rotate_left; (· intro h; exfalso; first | omega | (revert h; decide)); intro _) | (refine ⟨fun _ => ?_, fun _ => ?_⟩) | (apply And.intro; · kernel_rfl) | (apply And.intro; · (show inK _ _; unfold inK; omega)) | (apply And.intro; · (show (_ : Int) ≤ 9223372036854775807; (try simp only [List.length_append, List.length_drop, List.length_take, List.length_cons, List.length_nil]); omega))) | ((with_reducible show AllBe _); refine allBe fun βe => ?_; conv => whnf) | ((with_reducible show bothX _ _); refine bothI ?_ ?_; conv => whnf) | (with_reducible exact trivial) | ((with_reducible show CallN _ _ _ _ _ _ _ _); refine call_of env_ok rfl 1000 ?_) | ((with_reducible show XopN _ _ _ _ _ _); refine xop_of env_ok rfl 1000 ?_) | ((with_reducible show CallX _ _ _ _ _ _); first | (refine callX (.lit true) (by kernel_rfl) rfl (trivial) (fun β w hm => A0 w hm.below) ?_) | (refine callX (.tup [.agg [.str R1, .str R2], .int .i64 RE]) (by kernel_rfl) rfl (⟨⟨trivial, trivial, trivial⟩, trivial, trivial⟩) (fun β w hm => A1 w hm.below) ?_) | (refine callFr .i64 10 ⟨wm, wn, wd⟩ hw0 (by kernel_rfl) rfl (fun β w' hm => A2 w' hm.below) (fun a1 c1 a2 c2 hcp => ?_)) | (refine callFr .i64 10 ⟨qm, qn, qd⟩ hw0 (by kernel_rfl) rfl (fun β w' hm => A3 w' hm.below) (fun b1 e1 b2 e2 hcq => ?_)) | (refine callX (.agg [.bool qm, .any (.slice b2 (ExP.nd 10 qd) e2), .any (.slice b1 (ExP.nd 10 qn) e1)]) (by kernel_rfl) rfl (⟨trivial, rfl, rfl, trivial⟩) (fun β w hm => rinv_any qm b1 b2 _ e1 _ e2 w) ?_) | (refine callFr .i64 10 ⟨rm, rn, rd⟩ hw0 (by kernel_rfl) rfl (fun β w' hm => RM1 a1 c1 a2 c2 b2 e2 b1 e1 w' hm.below (FrIn.of (by first | exact hm.slF 2 rfl | exact hm.slF 3 rfl | exact hm.slF 4 rfl | exact hm.slF 5 rfl | exact hm.slF 6 rfl | exact hm.slF 7 rfl | exact hm.slF 8 rfl | exact hm.slF 9 rfl | exact hm.slF 10 rfl | exact hm.slF 11 rfl | exact hm.slF 12 rfl | exact hm.slF 13 rfl) (by first | exact hm.slF 2 rfl | exact hm.slF 3 rfl | exact hm.slF 4 rfl | exact hm.slF 5 rfl | exact hm.slF 6 rfl | exact hm.slF 7 rfl | exact hm.slF 8 rfl | exact hm.slF 9 rfl | exact hm.slF 10 rfl | exact hm.slF 11 rfl | exact hm.slF 12 rfl | exact hm.slF 13 rfl) hcp) (FrIn.of (by first | exact hm.slF 2 rfl | exact hm.slF 3 rfl | exact hm.slF 4 rfl | exact hm.slF 5 rfl | exact hm.slF 6 rfl | exact hm.slF 7 rfl | exact hm.slF 8 rfl | exact hm.slF 9 rfl | exact hm.slF 10 rfl | exact hm.slF 11 rfl | exact hm.slF 12 rfl | exact hm.slF 13 rfl) (by first | exact hm.slF 2 rfl | exact hm.slF 3 rfl | exact hm.slF 4 rfl | exact hm.slF 5 rfl | exact hm.slF 6 rfl | exact hm.slF 7 rfl | exact hm.slF 8 rfl | exact hm.slF 9 rfl | exact hm.slF 10 rfl | exact hm.slF 11 rfl | exact hm.slF 12 rfl | exact hm.slF 13 rfl) ⟨hcq.bn, hcq.an, hcq.cd, hcq.cn⟩) (by omega) (by omega) (by omega) (by omega)) (fun u1 v1 u2 v2 hcr => ?_)) | (refine callX (.lit true) (by kernel_rfl) rfl (trivial) (fun β w hm => LF (R1, R2) RE ⟨rm, rn, rd, u1, v1, u2, v2⟩ w hm.below (FrIn.of (by first | exact hm.slF 2 rfl | exact hm.slF 3 rfl | exact hm.slF 4 rfl | exact hm.slF 5 rfl | exact hm.slF 6 rfl | exact hm.slF 7 rfl | exact hm.slF 8 rfl | exact hm.slF 9 rfl | exact hm.slF 10 rfl | exact hm.slF 11 rfl | exact hm.slF 12 rfl | exact hm.slF 13 rfl) (by first | exact hm.slF 2 rfl | exact hm.slF 3 rfl | exact hm.slF 4 rfl | exact hm.slF 5 rfl | exact hm.slF 6 rfl | exact hm.slF 7 rfl | exact hm.slF 8 rfl | exact hm.slF 9 rfl | exact hm.slF 10 rfl | exact hm.slF 11 rfl | exact hm.slF 12 rfl | exact hm.slF 13 rfl) hcr) IR) ?_) | (refine callX (.agg [.str tp, .str [49]]) (by kernel_rfl) rfl (⟨trivial, trivial, trivial⟩) (fun β w hm => A4 w hm.below) ?_) | (refine callFr .i64 10 ⟨wm, wn, wd⟩ hw0 (by kernel_rfl) rfl (fun β w' hm => A2 w' hm.below) (fun u3 v3 u4 v4 hcw => ?_)) | (refine callX (.lit true) (by kernel_rfl) rfl (trivial) (fun β w hm => LF (tp, [49]) 0 ⟨wm, wn, wd, a1, c1, a2, c2⟩ w hm.below (FrIn.of (by first | exact hm.slF 2 rfl | exact hm.slF 3 rfl | exact hm.slF 4 rfl | exact hm.slF 5 rfl | exact hm.slF 6 rfl | exact hm.slF 7 rfl | exact hm.slF 8 rfl | exact hm.slF 9 rfl | exact hm.slF 10 rfl | exact hm.slF 11 rfl | exact hm.slF 12 rfl | exact hm.slF 13 rfl | exact hm.slF 14 rfl | exact hm.slF 15 rfl | exact hm.slF 16 rfl | exact hm.slF 17 rfl | exact hm.slF 18 rfl | exact hm.slF 19 rfl) (by first | exact hm.slF 2 rfl | exact hm.slF 3 rfl | exact hm.slF 4 rfl | exact hm.slF 5 rfl | exact hm.slF 6 rfl | exact hm.slF 7 rfl | exact hm.slF 8 rfl | exact hm.slF 9 rfl | exact hm.slF 10 rfl | exact hm.slF 11 rfl | exact hm.slF 12 rfl | exact hm.slF 13 rfl | exact hm.slF 14 rfl | exact hm.slF 15 rfl | exact hm.slF 16 rfl | exact hm.slF 17 rfl | exact hm.slF 18 rfl | exact hm.slF 19 rfl) hcp) IO) ?_) | (refine callX (.int .i64 r) (by kernel_rfl) rfl (trivial) (fun β w hm => A5 w) ?_) | (refine callX (.tup [.agg [.str [], .str []], .int .i64 1]) (by kernel_rfl) rfl (⟨⟨trivial, trivial, trivial⟩, trivial, trivial⟩) (fun β w hm => A7 w hm.below) ?_) | (refine callX (.int .i64 0) (by kernel_rfl) rfl (trivial) (fun β w hm => A6 w hm.below) ?_) | (refine callFr .i64 10 ⟨xm, xn, xd⟩ hw0 (by kernel_rfl) rfl (fun β w' hm => A8 w' hm.below) (fun g1 d1 g2 d2 hcx => ?_)) | (refine callX (.int .i64 0) (by kernel_rfl) rfl (trivial) (fun β w hm => hz g1 g2 d1 d2 w) ?_)) | ((with_reducible show OpX _ _ _ _); first | fail) | ((with_reducible show ∃ _ : SV, _); first | fail) | ((with_reducible show ∃ _, _); first | (refine ⟨true, fracAggT _ _, ?_⟩)))
  all_goals first | rfl | (exfalso; omega) | (exfalso; simp_all; done) | (simp [SV.den]; done) | skip
set_option maxRecDepth 100000 in
set_option maxHeartbeats 8000000 in
theorem pow_q1_neg (f : ExP.Fr) (n p q r : Int) (w : World) (hw : XW w) (hw0 : 0 < w.heap.size) (h1 : f.1.length ≤ 9223372036854775807) (h2 : f.2.length ≤ 9223372036854775807) (p0 : -9223372036854775808 ≤ p) (p1 : p ≤ 9223372036854775807) (q0 : -9223372036854775808 ≤ q) (q1 : q ≤ 9223372036854775807)
    (hr : Int.tmod (Int.tmod n 41 + 41) 41 = r) (hr0 : 0 ≤ r) (hr1 : r < 41) (hq : q ≠ 0) (hE : ExP.readE f = 0) (k : Nat) (hk : k ≤ 20) (hk0 : 0 < k) (hrk : r - 20 = -(k : Int)) (hx0 : (ExP.readN f).n ≠ 0) :
    Calls Tryz.prog 4 #[frV f, .int .i64 n, .int .i64 p, .int .i64 q] w fun e w' => e = .returned (.bool true) ∧ Below w.heap.size w w' := by
  have A0 := fun (w' : World) (h : Below w.heap.size w w') => fractions_any w' (hw.below h) (Nat.lt_of_lt_of_le hw0 h.size)
  have A1 := fun (w' : World) (h : Below w.heap.size w w') => ratio_any p q w' (hw.below h) (Nat.lt_of_lt_of_le hw0 h.size) p0 p1 q0 q1
  have A2 := fun (w' : World) (h : Below w.heap.size w w') => whole_any p w' (Nat.lt_of_lt_of_le hw0 h.size) p0 p1
  have A3 := fun (w' : World) (h : Below w.heap.size w w') => whole_any q w' (Nat.lt_of_lt_of_le hw0 h.size) q0 q1
  have A4 := fun (w' : World) (h : Below w.heap.size w w') => of_any p w' (hw.below h) p0 p1
  have A5 := fun w => mod41_any n r w hr
  have A6 := fun (w' : World) (h : Below w.heap.size w w') => fracError_any f w' (Nat.lt_of_lt_of_le hw0 h.size) h1 h2
  have LF := fun (F : ExP.Fr) (E : Int) (x : FrV) (w' : World) (h : Below w.heap.size w w') (hx : FrIn .i64 10 x w') (hO : OpI x.num F E) => lfrac_any F E x w' (Nat.lt_of_lt_of_le hw0 h.size) hx hO.d hO.n1 hO.n2 hO.hF hO.hE
  have RM := fun (x y : FrV) (w' : World) (h : Below w.heap.size w w') => rmul_any x y w' (Nat.lt_of_lt_of_le hw0 h.size)
  have np := nd_abs p0 p1
  have nq := nd_abs q0 q1
  have n1 := ExP.nd_one (b := 10) (by omega)
  have IO : OpI (ExP.wholeN p) (Lib.itoa p, [49]) 0 := ⟨Nat.one_pos, Nat.le_trans np (by omega), by show ExP.nd 10 1 ≤ 1000000; omega, (ExP.whole_write p p0 p1).1, (ExP.whole_write p p0 p1).2⟩
  rw [if_neg hq, if_neg hq] at A1
  have hmul := ExP.ratio_mul p q
  have IR : OpI (ExP.ratioN p q) (ExP.writeF (ExP.ratioN p q)) (ExP.writeE (ExP.ratioN p q)) := ⟨by show 0 < q.natAbs; omega, by show ExP.nd 10 p.natAbs ≤ 1000000; omega, by show ExP.nd 10 q.natAbs ≤ 1000000; omega, rfl, rfl⟩
  have RM1 := fun a1 c1 a2 c2 b1 e1 b2 e2 => RM ⟨(ExP.wholeN p).m, (ExP.wholeN p).n, (ExP.wholeN p).d, a1, c1, a2, c2⟩ ⟨(ExP.wholeN q).m, (ExP.wholeN q).d, (ExP.wholeN q).n, b1, e1, b2, e2⟩
  simp only [FrV.num, FrV.val] at RM1
  change ∀ a1 c1 a2 c2 b1 e1 b2 e2 w', _ → _ → _ → _ → _ → _ → _ → Calls _ _ _ _ (FrOut .i64 10 (ExP.mulN (ExP.wholeN p) (ExP.invN (ExP.wholeN q))) w') at RM1
  rw [hmul] at RM1
  have wp1 : ExP.nd 10 (ExP.wholeN p).n ≤ 20 := np
  have wp2 : ExP.nd 10 (ExP.wholeN p).d ≤ 20 := by show ExP.nd 10 1 ≤ 20; omega
  have wq1 : ExP.nd 10 (ExP.wholeN q).n ≤ 20 := nq
  have wq2 : ExP.nd 10 (ExP.wholeN q).d ≤ 20 := by show ExP.nd 10 1 ≤ 20; omega
  generalize ExP.ratioN p q = RN at *
  generalize ExP.writeF RN = RF at *
  generalize ExP.writeE RN = RE at *
  generalize ExP.wholeN q = Q at *
  obtain ⟨rm, rn, rd⟩ := RN
  obtain ⟨R1, R2⟩ := RF
  obtain ⟨qm, qn, qd⟩ := Q
  generalize ExP.wholeN p = W at *
  generalize Lib.itoa p = tp at *
  obtain ⟨wm, wn, wd⟩ := W
  have A7 : ∀ w', Below w.heap.size w w' → Calls Tryz.prog 30 #[frV f, .int .i64 (r - 20)] w' (WrOut (ExP.writeF (ExP.powN (ExP.invN (ExP.readN f)) k)) (ExP.writeE (ExP.powN (ExP.invN (ExP.readN f)) k)) w') := fun (w' : World) (h : Below w.heap.size w w') => by rw [hrk]; exact power_neg f k w' (hw.below h) (Nat.lt_of_lt_of_le hw0 h.size) (by omega) h1 h2 hE hk0 hx0
  rw [hE] at A6
  have A8 := fun (w' : World) (h : Below w.heap.size w w') => ratOf_any f w' (Nat.lt_of_lt_of_le hw0 h.size) hE
  obtain ⟨t1, t2, t3⟩ := ExP.read_nd hE (b := 10) (by omega)
  have IP := powI (x := ExP.invN (ExP.readN f)) (k := k) (by omega) t2 t1 (Nat.pos_of_ne_zero hx0)
  have RP := fun (x : FrV) (w' : World) (h : Below w.heap.size w w') => rpower_any x k w' (Nat.lt_of_lt_of_le hw0 h.size) (by omega)
  generalize ExP.readN f = X at *
  obtain ⟨xm, xn, xd⟩ := X
  try dsimp only [ExP.invN] at *
  have RP1 := fun a1 c1 a2 c2 => RP ⟨xm, xd, xn, a1, c1, a2, c2⟩
  dsimp only [FrV.num, FrV.val] at RP1
  generalize ExP.powN ⟨xm, xd, xn⟩ k = P at *
  generalize ExP.writeF P = PF at *
  generalize ExP.writeE P = PE at *
  obtain ⟨pm, pn, pd⟩ := P
  obtain ⟨P1, P2⟩ := PF
  have hz := fun a b c e w' => rsign_any xm a b xn c (ExP.nd 10 xd) e w'
  rw [if_neg hx0] at hz
  obtain ⟨sy, hsy0⟩ : ∃ sy : Int, sy = if xm = true then -1 else 1 := ⟨_, rfl⟩
  rw [← hsy0] at hz
  have hsy1 : sy ≠ 0 := by rw [hsy0]; split <;> decide
  clear hsy0
  obtain ⟨f1, f2⟩ := f
  try dsimp only at *
  refine enter env_ok Tryz.func4 rfl Tryz.results4 Tryz.ntmps4 [] [200007, 200021] [.agg [.str f1, .str f2], .int .i64 n, .int .i64 p, .int .i64 q] (by simp [SV.oks, SV.ok]) (Nat.le_of_ble_eq_true rfl) w _ 1000 ?_
  repeat' (first | ((with_reducible first | show wpS _ _ _ _ | show putD _ _ _ _ | show putW _ _ _ _ | show splitG _ _ _ | show wpQ _ _ _ _ _ _ | show wpD _ _ _ _ _ _ _ | show wpX _ _ _ _ _ _ _ | show expX _ _ _ _ _ _ | show stepX _ _ _ _ | show keepR _ _ _ | show wpY _ _ _ _); conv => whnf) | ((with_reducible show RetN _ _ _); refine retB fun β => ?_) | ((with_reducible show _ ∧ _); first | (apply And.intro; (· intro h; exfalso; first | omega | (revert h; decide)); intro _) | (apply And.intro; rotate_left; (· intro h; exfalso; first | omega | (revert h; decide)); intro _) | (refine ⟨fun _ => ?_, fun _ => ?_⟩) | (apply And.intro; · kernel_rfl) | (apply And.intro; · (show inK _ _; unfold inK; omega)) | (apply And.intro; · (show (_ : Int) ≤ 9223372036854775807; (try simp only [List.length_append, List.length_drop, List.length_take, List.length_cons, List.length_nil]); omega))) | ((with_reducible show AllBe _); refine allBe fun βe => ?_; conv => whnf) | ((with_reducible show bothX _ _); refine bothI ?_ ?_; conv => whnf) | (with_reducible exact trivial) | ((with_reducible show CallN _ _ _ _ _ _ _ _); refine call_of env_ok rfl 1000 ?_) | ((with_reducible show XopN _ _ _ _ _ _); refine xop_of env_ok rfl 1000 ?_) | ((with_reducible show CallX _ _ _ _ _ _); first | (refine callX (.lit true) (by kernel_rfl) rfl (trivial) (fun β w hm => A0 w hm.below) ?_) | (refine callX (.tup [.agg [.str R1, .str R2], .int .i64 RE]) (by kernel_rfl) rfl (⟨⟨trivial, trivial, trivial⟩, trivial, trivial⟩) (fun β w hm => A1 w hm.below) ?_) | (refine callFr .i64 10 ⟨wm, wn, wd⟩ hw0 (by kernel_rfl) rfl (fun β w' hm => A2 w' hm.below) (fun a1 c1 a2 c2 hcp => ?_)) | (refine callFr .i64 10 ⟨qm, qn, qd⟩ hw0 (by kernel_rfl) rfl (fun β w' hm => A3 w' hm.below) (fun b1 e1 b2 e2 hcq => ?_)) | (refine callX (.agg [.bool qm, .any (.slice b2 (ExP.nd 10 qd) e2), .any (.slice b1 (ExP.nd 10 qn) e1)]) (by kernel_rfl) rfl (⟨trivial, rfl, rfl, trivial⟩) (fun β w hm => rinv_any qm b1 b2 _ e1 _ e2 w) ?_) | (refine callFr .i64 10 ⟨rm, rn, rd⟩ hw0 (by kernel_rfl) rfl (fun β w' hm => RM1 a1 c1 a2 c2 b2 e2 b1 e1 w' hm.below (FrIn.of (by first | exact hm.slF 2 rfl | exact hm.slF 3 rfl | exact hm.slF 4 rfl | exact hm.slF 5 rfl | exact hm.slF 6 rfl | exact hm.slF 7 rfl | exact hm.slF 8 rfl | exact hm.slF 9 rfl | exact hm.slF 10 rfl | exact hm.slF 11 rfl | exact hm.slF 12 rfl | exact hm.slF 13 rfl) (by first | exact hm.slF 2 rfl | exact hm.slF 3 rfl | exact hm.slF 4 rfl | exact hm.slF 5 rfl | exact hm.slF 6 rfl | exact hm.slF 7 rfl | exact hm.slF 8 rfl | exact hm.slF 9 rfl | exact hm.slF 10 rfl | exact hm.slF 11 rfl | exact hm.slF 12 rfl | exact hm.slF 13 rfl) hcp) (FrIn.of (by first | exact hm.slF 2 rfl | exact hm.slF 3 rfl | exact hm.slF 4 rfl | exact hm.slF 5 rfl | exact hm.slF 6 rfl | exact hm.slF 7 rfl | exact hm.slF 8 rfl | exact hm.slF 9 rfl | exact hm.slF 10 rfl | exact hm.slF 11 rfl | exact hm.slF 12 rfl | exact hm.slF 13 rfl) (by first | exact hm.slF 2 rfl | exact hm.slF 3 rfl | exact hm.slF 4 rfl | exact hm.slF 5 rfl | exact hm.slF 6 rfl | exact hm.slF 7 rfl | exact hm.slF 8 rfl | exact hm.slF 9 rfl | exact hm.slF 10 rfl | exact hm.slF 11 rfl | exact hm.slF 12 rfl | exact hm.slF 13 rfl) ⟨hcq.bn, hcq.an, hcq.cd, hcq.cn⟩) (by omega) (by omega) (by omega) (by omega)) (fun u1 v1 u2 v2 hcr => ?_)) | (refine callX (.lit true) (by kernel_rfl) rfl (trivial) (fun β w hm => LF (R1, R2) RE ⟨rm, rn, rd, u1, v1, u2, v2⟩ w hm.below (FrIn.of (by first | exact hm.slF 2 rfl | exact hm.slF 3 rfl | exact hm.slF 4 rfl | exact hm.slF 5 rfl | exact hm.slF 6 rfl | exact hm.slF 7 rfl | exact hm.slF 8 rfl | exact hm.slF 9 rfl | exact hm.slF 10 rfl | exact hm.slF 11 rfl | exact hm.slF 12 rfl | exact hm.slF 13 rfl) (by first | exact hm.slF 2 rfl | exact hm.slF 3 rfl | exact hm.slF 4 rfl | exact hm.slF 5 rfl | exact hm.slF 6 rfl | exact hm.slF 7 rfl | exact hm.slF 8 rfl | exact hm.slF 9 rfl | exact hm.slF 10 rfl | exact hm.slF 11 rfl | exact hm.slF 12 rfl | exact hm.slF 13 rfl) hcr) IR) ?_) | (refine callX (.agg [.str tp, .str [49]]) (by kernel_rfl) rfl (⟨trivial, trivial, trivial⟩) (fun β w hm => A4 w hm.below) ?_) | (refine callFr .i64 10 ⟨wm, wn, wd⟩ hw0 (by kernel_rfl) rfl (fun β w' hm => A2 w' hm.below) (fun u3 v3 u4 v4 hcw => ?_)) | (refine callX (.lit true) (by kernel_rfl) rfl (trivial) (fun β w hm => LF (tp, [49]) 0 ⟨wm, wn, wd, a1, c1, a2, c2⟩ w hm.below (FrIn.of (by first | exact hm.slF 2 rfl | exact hm.slF 3 rfl | exact hm.slF 4 rfl | exact hm.slF 5 rfl | exact hm.slF 6 rfl | exact hm.slF 7 rfl | exact hm.slF 8 rfl | exact hm.slF 9 rfl | exact hm.slF 10 rfl | exact hm.slF 11 rfl | exact hm.slF 12 rfl | exact hm.slF 13 rfl | exact hm.slF 14 rfl | exact hm.slF 15 rfl | exact hm.slF 16 rfl | exact hm.slF 17 rfl | exact hm.slF 18 rfl | exact hm.slF 19 rfl) (by first | exact hm.slF 2 rfl | exact hm.slF 3 rfl | exact hm.slF 4 rfl | exact hm.slF 5 rfl | exact hm.slF 6 rfl | exact hm.slF 7 rfl | exact hm.slF 8 rfl | exact hm.slF 9 rfl | exact hm.slF 10 rfl | exact hm.slF 11 rfl | exact hm.slF 12 rfl | exact hm.slF 13 rfl | exact hm.slF 14 rfl | exact hm.slF 15 rfl | exact hm.slF 16 rfl | exact hm.slF 17 rfl | exact hm.slF 18 rfl | exact hm.slF 19 rfl) hcp) IO) ?_) | (refine callX (.int .i64 r) (by kernel_rfl) rfl (trivial) (fun β w hm => A5 w) ?_) | (refine callX (.tup [.agg [.str P1, .str P2], .int .i64 PE]) (by kernel_rfl) rfl (⟨⟨trivial, trivial, trivial⟩, trivial, trivial⟩) (fun β w hm => A7 w hm.below) ?_) | (refine callX (.int .i64 0) (by kernel_rfl) rfl (trivial) (fun β w hm => A6 w hm.below) ?_) | (refine callFr .i64 10 ⟨xm, xn, xd⟩ hw0 (by kernel_rfl) rfl (fun β w' hm => A8 w' hm.below) (fun g1 d1 g2 d2 hcx => ?_)) | (refine callX (.int .i64 sy) (by kernel_rfl) rfl (trivial) (fun β w hm => hz g1 g2 d1 d2 w) ?_) | (refine callX (.agg [.bool xm, .any (.slice g2 (ExP.nd 10 xd) d2), .any (.slice g1 (ExP.nd 10 xn) d1)]) (by kernel_rfl) rfl (⟨trivial, rfl, rfl, trivial⟩) (fun β w hm => rinv_any xm g1 g2 _ d1 _ d2 w) ?_) | (refine callFr .i64 10 ⟨pm, pn, pd⟩ hw0 (by kernel_rfl) rfl (fun β w' hm => by simp only [SV.dens, SV.den]; rw [hrk, Int.zero_sub, Int.neg_neg]; exact RP1 g2 d2 g1 d1 w' hm.below (FrIn.of (by first | exact hm.slF 2 rfl | exact hm.slF 3 rfl | exact hm.slF 4 rfl | exact hm.slF 5 rfl | exact hm.slF 6 rfl | exact hm.slF 7 rfl | exact hm.slF 8 rfl | exact hm.slF 9 rfl | exact hm.slF 10 rfl | exact hm.slF 11 rfl | exact hm.slF 12 rfl | exact hm.slF 13 rfl | exact hm.slF 14 rfl | exact hm.slF 15 rfl | exact hm.slF 16 rfl | exact hm.slF 17 rfl | exact hm.slF 18 rfl | exact hm.slF 19 rfl) (by first | exact hm.slF 2 rfl | exact hm.slF 3 rfl | exact hm.slF 4 rfl | exact hm.slF 5 rfl | exact hm.slF 6 rfl | exact hm.slF 7 rfl | exact hm.slF 8 rfl | exact hm.slF 9 rfl | exact hm.slF 10 rfl | exact hm.slF 11 rfl | exact hm.slF 12 rfl | exact hm.slF 13 rfl | exact hm.slF 14 rfl | exact hm.slF 15 rfl | exact hm.slF 16 rfl | exact hm.slF 17 rfl | exact hm.slF 18 rfl | exact hm.slF 19 rfl) ⟨hcx.bn, hcx.an, hcx.cd, hcx.cn⟩) (by omega) (by omega)) (fun u7 v7 u8 v8 hcp2 => ?_)) | (refine callX (.lit true) (by kernel_rfl) rfl (trivial) (fun β w hm => LF (P1, P2) PE ⟨pm, pn, pd, u7, v7, u8, v8⟩ w hm.below (FrIn.of (by first | exact hm.slF 2 rfl | exact hm.slF 3 rfl | exact hm.slF 4 rfl | exact hm.slF 5 rfl | exact hm.slF 6 rfl | exact hm.slF 7 rfl | exact hm.slF 8 rfl | exact hm.slF 9 rfl | exact hm.slF 10 rfl | exact hm.slF 11 rfl | exact hm.slF 12 rfl | exact hm.slF 13 rfl | exact hm.slF 14 rfl | exact hm.slF 15 rfl | exact hm.slF 16 rfl | exact hm.slF 17 rfl | exact hm.slF 18 rfl | exact hm.slF 19 rfl) (by first | exact hm.slF 2 rfl | exact hm.slF 3 rfl | exact hm.slF 4 rfl | exact hm.slF 5 rfl | exact hm.slF 6 rfl | exact hm.slF 7 rfl | exact hm.slF 8 rfl | exact hm.slF 9 rfl | exact hm.slF 10 rfl | exact hm.slF 11 rfl | exact hm.slF 12 rfl | exact hm.slF 13 rfl | exact hm.slF 14 rfl | exact hm.slF 15 rfl | exact hm.slF 16 rfl | exact hm.slF 17 rfl | exact hm.slF 18 rfl | exact hm.slF 19 rfl) hcp2) IP) ?_)) | ((with_reducible show OpX _ _ _ _); first | fail) | ((with_reducible show ∃ _ : SV, _); first | fail) | ((with_reducible show ∃ _, _); first | (refine ⟨true, fracAggT _ _, ?_⟩)))
  all_goals first | rfl | (exfalso; omega) | (exfalso; simp_all; done) | (simp [SV.den]; done) | skip
end Go.Proofs.YtfodbfbljeeojaaGreatDoor
