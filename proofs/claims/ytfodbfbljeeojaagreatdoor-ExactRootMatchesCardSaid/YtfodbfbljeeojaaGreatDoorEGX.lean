/- Square roots of the program's fractions; the reference's Floor. Square roots: what the law asks of them, in plain numbers. -/
import Derived.Test.YtfodbfbljeeojaaGreatDoorEGW
import Derived.Test.YtfodbfbljeeojaaGreatDoorEExD4
import Derived.Test.YtfodbfbljeeojaaGreatDoorEExD2
import Derived.Test.YtfodbfbljeeojaaGreatDoorEGQ
set_option linter.unusedSimpArgs false
set_option linter.unusedVariables false
namespace Go.Proofs.YtfodbfbljeeojaaGreatDoor
open Go.RowKit
open Sym
attribute [local irreducible] Calls Sym.AggEq ExP.nd ExP.dig ExP.upd ExP.writeF ExP.writeE
theorem ExP.isq_le (x : Nat) : ExP.isq x ≤ x := by
  have h := (ExP.isq_spec x).1
  rcases Nat.eq_zero_or_pos (ExP.isq x) with h0 | h0
  · omega
  · exact Nat.le_trans (Nat.le_mul_of_pos_left _ h0) h
/-- the square of a root, in units -/
def ExP.rtQ (x : ExP.Num) (p : Nat) : Nat := x.n * 10 ^ (2 * p) / x.d
def ExP.rtN (x : ExP.Num) (p : Nat) : ExP.Num := ⟨false, ExP.isq (ExP.rtQ x p), 10 ^ p⟩
set_option maxRecDepth 100000 in
set_option maxHeartbeats 4000000 in
theorem Root_bad (f : ExP.Fr) (n : Int) (w : World) (hw0 : 0 < w.heap.size) (h1 : f.1.length ≤ 9223372036854775807) (h2 : f.2.length ≤ 9223372036854775807) (hE : ExP.readE f ≠ 0) :
    Calls Tryz.prog 32 #[frV f, .int .i64 n] w (WrOut ([], []) (ExP.readE f) w) := by
  have R1 := fun (w' : World) (h : Below w.heap.size w w') => read_any f w' (Nat.lt_of_lt_of_le hw0 h.size) h1 h2
  rw [ExP.readV_bad rfl hE] at R1
  generalize ExP.readE f = E at *
  obtain ⟨f1, f2⟩ := f
  refine enter env_ok Tryz.func32 rfl Tryz.results32 Tryz.ntmps32 [] [] [.agg [.str f1, .str f2], .int .i64 n] (by simp [SV.oks, SV.ok]) (Nat.le_of_ble_eq_true rfl) w _ 1000 ?_
  repeat' (first | ((with_reducible first | show wpS _ _ _ _ | show putD _ _ _ _ | show putW _ _ _ _ | show splitG _ _ _ | show wpQ _ _ _ _ _ _ | show wpD _ _ _ _ _ _ _ | show wpX _ _ _ _ _ _ _ | show expX _ _ _ _ _ _ | show stepX _ _ _ _ | show keepR _ _ _ | show wpY _ _ _ _); conv => whnf) | ((with_reducible show RetN _ _ _); refine retB fun β => ?_) | ((with_reducible show _ ∧ _); first | (apply And.intro; (· intro h; exfalso; first | omega | (revert h; decide)); intro _) | (apply And.intro; rotate_left; (· intro h; exfalso; first | omega | (revert h; decide)); intro _) | (refine ⟨fun _ => ?_, fun _ => ?_⟩) | (apply And.intro; · kernel_rfl) | (apply And.intro; · (show inK _ _; unfold inK; omega)) | (apply And.intro; · (show (_ : Int) ≤ 9223372036854775807; (try simp only [List.length_append, List.length_drop, List.length_take, List.length_cons, List.length_nil]); omega))) | ((with_reducible show AllBe _); refine allBe fun βe => ?_; conv => whnf) | ((with_reducible show bothX _ _); refine bothI ?_ ?_; conv => whnf) | (with_reducible exact trivial) | ((with_reducible show CallN _ _ _ _ _ _ _ _); refine call_of env_ok rfl 1000 ?_) | ((with_reducible show XopN _ _ _ _ _ _); refine xop_of env_ok rfl 1000 ?_) | ((with_reducible show CallX _ _ _ _ _ _); first | (refine callFrE .u32 1000000000 ⟨false, 0, 0⟩ E hw0 (by kernel_rfl) rfl (fun β w' hm => R1 w' hm.below) (fun a1 c1 a2 c2 hcap => ?_))) | ((with_reducible show OpX _ _ _ _); first | fail) | ((with_reducible show ∃ _ : SV, _); first | fail) | ((with_reducible show ∃ _, _); first | fail))
  all_goals first | rfl | (exfalso; simp_all; done)
set_option maxRecDepth 100000 in
set_option maxHeartbeats 4000000 in
theorem Root_no (f : ExP.Fr) (n : Int) (w : World) (hw0 : 0 < w.heap.size) (h1 : f.1.length ≤ 9223372036854775807) (h2 : f.2.length ≤ 9223372036854775807) (hE : ExP.readE f = 0) (hr : (ExP.readN f).m = true ∨ n < 0 ∨ 100 < n) :
    Calls Tryz.prog 32 #[frV f, .int .i64 n] w (WrOut ([], []) (if (ExP.readN f).m = true then 1 else 2) w) := by
  have R1 := fun (w' : World) (h : Below w.heap.size w w') => read_any f w' (Nat.lt_of_lt_of_le hw0 h.size) h1 h2
  rw [ExP.readV_ok hE, hE] at R1
  generalize ExP.readN f = V at *
  obtain ⟨m, x, y⟩ := V
  obtain ⟨f1, f2⟩ := f
  dsimp only at *
  cases m with
  | true =>
    refine enter env_ok Tryz.func32 rfl Tryz.results32 Tryz.ntmps32 [] [200008] [.agg [.str f1, .str f2], .int .i64 n] (by simp [SV.oks, SV.ok]) (Nat.le_of_ble_eq_true rfl) w _ 1000 ?_
    repeat' (first | ((with_reducible first | show wpS _ _ _ _ | show putD _ _ _ _ | show putW _ _ _ _ | show splitG _ _ _ | show wpQ _ _ _ _ _ _ | show wpD _ _ _ _ _ _ _ | show wpX _ _ _ _ _ _ _ | show expX _ _ _ _ _ _ | show stepX _ _ _ _ | show keepR _ _ _ | show wpY _ _ _ _); conv => whnf) | ((with_reducible show RetN _ _ _); refine retB fun β => ?_) | ((with_reducible show _ ∧ _); first | (apply And.intro; (· intro h; exfalso; first | omega | (revert h; decide)); intro _) | (apply And.intro; rotate_left; (· intro h; exfalso; first | omega | (revert h; decide)); intro _) | (refine ⟨fun _ => ?_, fun _ => ?_⟩) | (apply And.intro; · kernel_rfl) | (apply And.intro; · (show inK _ _; unfold inK; omega)) | (apply And.intro; · (show (_ : Int) ≤ 9223372036854775807; (try simp only [List.length_append, List.length_drop, List.length_take, List.length_cons, List.length_nil]); omega))) | ((with_reducible show AllBe _); refine allBe fun βe => ?_; conv => whnf) | ((with_reducible show bothX _ _); refine bothI ?_ ?_; conv => whnf) | (with_reducible exact trivial) | ((with_reducible show CallN _ _ _ _ _ _ _ _); refine call_of env_ok rfl 1000 ?_) | ((with_reducible show XopN _ _ _ _ _ _); refine xop_of env_ok rfl 1000 ?_) | ((with_reducible show CallX _ _ _ _ _ _); first | (refine callFrE .u32 1000000000 ⟨true, x, y⟩ 0 hw0 (by kernel_rfl) rfl (fun β w' hm => R1 w' hm.below) (fun a1 c1 a2 c2 hcap => ?_))) | ((with_reducible show OpX _ _ _ _); first | fail) | ((with_reducible show ∃ _ : SV, _); first | fail) | ((with_reducible show ∃ _, _); first | fail))
    all_goals first | rfl | (exfalso; omega) | (exfalso; simp_all; done)
  | false =>
    have hr := hr.resolve_left (by decide)
    refine enter env_ok Tryz.func32 rfl Tryz.results32 Tryz.ntmps32 [] [200008] [.agg [.str f1, .str f2], .int .i64 n] (by simp [SV.oks, SV.ok]) (Nat.le_of_ble_eq_true rfl) w _ 1000 ?_
    repeat' (first | ((with_reducible first | show wpS _ _ _ _ | show putD _ _ _ _ | show putW _ _ _ _ | show splitG _ _ _ | show wpQ _ _ _ _ _ _ | show wpD _ _ _ _ _ _ _ | show wpX _ _ _ _ _ _ _ | show expX _ _ _ _ _ _ | show stepX _ _ _ _ | show keepR _ _ _ | show wpY _ _ _ _); conv => whnf) | ((with_reducible show RetN _ _ _); refine retB fun β => ?_) | ((with_reducible show _ ∧ _); first | (apply And.intro; (· intro h; exfalso; first | omega | (revert h; decide)); intro _) | (apply And.intro; rotate_left; (· intro h; exfalso; first | omega | (revert h; decide)); intro _) | (refine ⟨fun _ => ?_, fun _ => ?_⟩) | (apply And.intro; · kernel_rfl) | (apply And.intro; · (show inK _ _; unfold inK; omega)) | (apply And.intro; · (show (_ : Int) ≤ 9223372036854775807; (try simp only [List.length_append, List.length_drop, List.length_take, List.length_cons, List.length_nil]); omega))) | ((with_reducible show AllBe _); refine allBe fun βe => ?_; conv => whnf) | ((with_reducible show bothX _ _); refine bothI ?_ ?_; conv => whnf) | (with_reducible exact trivial) | ((with_reducible show CallN _ _ _ _ _ _ _ _); refine call_of env_ok rfl 1000 ?_) | ((with_reducible show XopN _ _ _ _ _ _); refine xop_of env_ok rfl 1000 ?_) | ((with_reducible show CallX _ _ _ _ _ _); first | (refine callFrE .u32 1000000000 ⟨false, x, y⟩ 0 hw0 (by kernel_rfl) rfl (fun β w' hm => R1 w' hm.below) (fun a1 c1 a2 c2 hcap => ?_))) | ((with_reducible show OpX _ _ _ _); first | fail) | ((with_reducible show ∃ _ : SV, _); first | fail) | ((with_reducible show ∃ _, _); first | fail))
    all_goals first | rfl | (exfalso; omega) | (exfalso; simp_all; done)
set_option maxRecDepth 100000 in
set_option maxHeartbeats 4000000 in
theorem Root_good (f : ExP.Fr) (p : Nat) (w : World) (hw : XW w) (hw0 : 0 < w.heap.size) (h1 : f.1.length ≤ 9223372036854775807) (h2 : f.2.length ≤ 9223372036854775807) (hE : ExP.readE f = 0) (hm : (ExP.readN f).m = false) (hp : p ≤ 100) :
    Calls Tryz.prog 32 #[frV f, .int .i64 (p : Int)] w (WrOut (ExP.writeF (ExP.rtN (ExP.readN f) p)) (ExP.writeE (ExP.rtN (ExP.readN f) p)) w) := by
  have R1 := fun (w' : World) (h : Below w.heap.size w w') => read_any f w' (Nat.lt_of_lt_of_le hw0 h.size) h1 h2
  obtain ⟨q1, q2, q3⟩ := ExP.read_nd hE (b := 1000000000) (by omega)
  rw [ExP.readV_ok hE, hE] at R1
  have W1 := fun (x : FrV) (w' : World) (h : Below w.heap.size w w') => write_any x w' (hw.below h) (Nat.lt_of_lt_of_le hw0 h.size)
  have hN : ExP.rtN (ExP.readN f) p = ⟨false, ExP.isq ((ExP.readN f).n * 10 ^ (2 * p) / (ExP.readN f).d), 10 ^ p⟩ := rfl
  rw [hN]
  clear hN
  generalize ExP.readN f = V at *
  obtain ⟨m, x, y⟩ := V
  dsimp only at *
  subst hm
  obtain ⟨f1, f2⟩ := f
  have T2 := fun (w' : World) (h : Below w.heap.size w w') => ten_any (2 * p) w' (Nat.lt_of_lt_of_le hw0 h.size) (by omega)
  have T1 := fun (w' : World) (h : Below w.heap.size w w') => ten_any p w' (Nat.lt_of_lt_of_le hw0 h.size) (by omega)
  have n1 : ExP.nd 1000000000 (10 ^ (2 * p)) ≤ 201 := Nat.le_trans (ExP.nd_ten (by omega) _) (by omega)
  have n2 : ExP.nd 1000000000 (10 ^ p) ≤ 101 := Nat.le_trans (ExP.nd_ten (by omega) _) (by omega)
  have hmul := ExP.nd_mul (b := 1000000000) (x := x) (y := 10 ^ (2 * p)) (by omega)
  have hdiv := ExP.nd_mono (b := 1000000000) (by omega) (Nat.div_le_self (x * 10 ^ (2 * p)) y)
  have hisq := ExP.nd_mono (b := 1000000000) (by omega) (ExP.isq_le (x * 10 ^ (2 * p) / y))
  have hpp : 0 < 10 ^ p := Nat.pow_pos (by omega)
  have hpe : (2 : Int) * (p : Int) = ((2 * p : Nat) : Int) := by omega
  have RT := fun a ca (w' : World) (h : Below w.heap.size w w') => root_any a ca (x * 10 ^ (2 * p) / y) w' (hw.below h) (Nat.lt_of_lt_of_le hw0 h.size) (by omega)
  generalize 10 ^ (2 * p) = P2 at *
  generalize 10 ^ p = P1 at *
  have DV := fun a ca b cb (w' : World) (h : Below w.heap.size w w') => divide_any a b ca cb (x * P2) y w' (Nat.lt_of_lt_of_le hw0 h.size) (by omega) (by omega) q3
  generalize x * P2 / y = Q at *
  generalize x * P2 % y = R at *
  generalize ExP.isq Q = S at *
  refine enter env_ok Tryz.func32 rfl Tryz.results32 Tryz.ntmps32 [] [200008] [.agg [.str f1, .str f2], .int .i64 (p : Int)] (by simp [SV.oks, SV.ok]) (Nat.le_of_ble_eq_true rfl) w _ 1000 ?_
  repeat' (first | ((with_reducible first | show wpS _ _ _ _ | show putD _ _ _ _ | show putW _ _ _ _ | show splitG _ _ _ | show wpQ _ _ _ _ _ _ | show wpD _ _ _ _ _ _ _ | show wpX _ _ _ _ _ _ _ | show expX _ _ _ _ _ _ | show stepX _ _ _ _ | show keepR _ _ _ | show wpY _ _ _ _); conv => whnf) | ((with_reducible show RetN _ _ _); refine retB fun β => ?_) | ((with_reducible show _ ∧ _); first | (apply And.intro; (· intro h; exfalso; first | omega | (revert h; decide)); intro _) | (apply And.intro; rotate_left; (· intro h; exfalso; first | omega | (revert h; decide)); intro _) | (refine ⟨fun _ => ?_, fun _ => ?_⟩) | (apply And.intro; · kernel_rfl) | (apply And.intro; · (show inK _ _; unfold inK; omega)) | (apply And.intro; · (show (_ : Int) ≤ 9223372036854775807; (try simp only [List.length_append, List.length_drop, List.length_take, List.length_cons, List.length_nil]); omega))) | ((with_reducible show AllBe _); refine allBe fun βe => ?_; conv => whnf) | ((with_reducible show bothX _ _); refine bothI ?_ ?_; conv => whnf) | (with_reducible exact trivial) | ((with_reducible show CallN _ _ _ _ _ _ _ _); refine call_of env_ok rfl 1000 ?_) | ((with_reducible show XopN _ _ _ _ _ _); refine xop_of env_ok rfl 1000 ?_) | ((with_reducible show CallX _ _ _ _ _ _); first | (refine callFrE .u32 1000000000 ⟨false, x, y⟩ 0 hw0 (by kernel_rfl) rfl (fun β w' hm => R1 w' hm.below) (fun a1 c1 a2 c2 hcap => ?_)) | (refine callNat .u32 1000000000 P2 hw0 (by kernel_rfl) rfl (fun β w' hm => by simp only [SV.dens, SV.den]; rw [hpe]; exact T2 w' hm.below) (fun a3 c3 k1 k2 k3 => ?_)) | (refine callNat .u32 1000000000 (x * P2) hw0 (by kernel_rfl) rfl (fun β w' hm => times_any a1 a3 c1 c3 x P2 w' (by omega) (by omega) (by first | exact hm.slF 2 rfl | exact hm.slF 3 rfl | exact hm.slF 4 rfl | exact hm.slF 5 rfl | exact hm.slF 6 rfl | exact hm.slF 7 rfl | exact hm.slF 8 rfl | exact hm.slF 9 rfl | exact hm.slF 10 rfl | exact hm.slF 11 rfl) (by first | exact hm.slF 2 rfl | exact hm.slF 3 rfl | exact hm.slF 4 rfl | exact hm.slF 5 rfl | exact hm.slF 6 rfl | exact hm.slF 7 rfl | exact hm.slF 8 rfl | exact hm.slF 9 rfl | exact hm.slF 10 rfl | exact hm.slF 11 rfl)) (fun a4 c4 k4 k5 k6 => ?_)) | (refine callNat2 .u32 1000000000 Q R hw0 (by kernel_rfl) rfl (fun β w' hm => DV a4 c4 a2 c2 w' hm.below (by first | exact hm.slF 2 rfl | exact hm.slF 3 rfl | exact hm.slF 4 rfl | exact hm.slF 5 rfl | exact hm.slF 6 rfl | exact hm.slF 7 rfl | exact hm.slF 8 rfl | exact hm.slF 9 rfl | exact hm.slF 10 rfl | exact hm.slF 11 rfl) (by first | exact hm.slF 2 rfl | exact hm.slF 3 rfl | exact hm.slF 4 rfl | exact hm.slF 5 rfl | exact hm.slF 6 rfl | exact hm.slF 7 rfl | exact hm.slF 8 rfl | exact hm.slF 9 rfl | exact hm.slF 10 rfl | exact hm.slF 11 rfl)) (fun a5 c5 a6 c6 j1 j2 j3 j4 j5 j6 => ?_)) | (refine callNat .u32 1000000000 S hw0 (by kernel_rfl) rfl (fun β w' hm => RT a5 c5 w' hm.below j1 j2 (by first | exact hm.slF 2 rfl | exact hm.slF 3 rfl | exact hm.slF 4 rfl | exact hm.slF 5 rfl | exact hm.slF 6 rfl | exact hm.slF 7 rfl | exact hm.slF 8 rfl | exact hm.slF 9 rfl | exact hm.slF 10 rfl | exact hm.slF 11 rfl)) (fun a7 c7 k7 k8 k9 => ?_)) | (refine callNat .u32 1000000000 P1 hw0 (by kernel_rfl) rfl (fun β w' hm => T1 w' hm.below) (fun a8 c8 g1 g2 g3 => ?_)) | (refine callX (.tup [.agg [.str (ExP.writeF ⟨false, S, P1⟩).1, .str (ExP.writeF ⟨false, S, P1⟩).2], .int .i64 (ExP.writeE ⟨false, S, P1⟩)]) (by kernel_rfl) rfl (⟨⟨trivial, trivial, trivial⟩, trivial, trivial⟩) (fun β w hm => W1 ⟨false, S, P1, a7, c7, a8, c8⟩ w hm.below (FrIn.of (by first | exact hm.slF 2 rfl | exact hm.slF 3 rfl | exact hm.slF 4 rfl | exact hm.slF 5 rfl | exact hm.slF 6 rfl | exact hm.slF 7 rfl | exact hm.slF 8 rfl | exact hm.slF 9 rfl | exact hm.slF 10 rfl | exact hm.slF 11 rfl) (by first | exact hm.slF 2 rfl | exact hm.slF 3 rfl | exact hm.slF 4 rfl | exact hm.slF 5 rfl | exact hm.slF 6 rfl | exact hm.slF 7 rfl | exact hm.slF 8 rfl | exact hm.slF 9 rfl | exact hm.slF 10 rfl | exact hm.slF 11 rfl) ⟨k7, g1, k8, g2⟩) hpp (by dsimp only; omega) (by dsimp only; omega)) ?_)) | ((with_reducible show OpX _ _ _ _); first | fail) | ((with_reducible show ∃ _ : SV, _); first | fail) | ((with_reducible show ∃ _, _); first | fail))
  all_goals first | rfl | (exfalso; omega) | (exfalso; simp_all; done)
/-- rounded down -/
def ExP.floorN (x : ExP.Num) : ExP.Num := ⟨x.m, x.n / x.d + (if x.m = true ∧ x.n % x.d ≠ 0 then 1 else 0), 1⟩
set_option maxRecDepth 100000 in
set_option maxHeartbeats 4000000 in
theorem rfloor_any (x : FrV) (w : World) (hw0 : 0 < w.heap.size) (hx : FrIn .i64 10 x w) (hd : 0 < x.d) (hxn : ExP.nd 10 x.n ≤ 1000000) (hxd : ExP.nd 10 x.d ≤ 1000000) :
    Calls Tryz.prog 35 #[x.val 10] w (FrOut .i64 10 (ExP.floorN x.num) w) := by
  obtain ⟨i0, hi, hz0, hz1, hz2⟩ := info_parts intInfo
  have hu := Tryz.underlying34
  have hsz := fun w => Tryz.sizeOf3 w
  have hzv := fun w => Tryz.zeroValue3 w
  have hn1 : ExP.nd 10 1 = 1 := ExP.nd_one (by omega)
  have hv1 : nv .i64 10 1 = [.int .i64 1] := nv_one (by omega)
  have hF : ExP.floorN x.num = ⟨x.m, x.n / x.d + (if x.m = true ∧ x.n % x.d ≠ 0 then 1 else 0), 1⟩ := rfl
  rw [hF]
  clear hF
  obtain ⟨m, n, d, a, c, b, e⟩ := x
  obtain ⟨hx1, hx2, ⟨hx3, hx4, hx5, hx6⟩⟩ := hx
  dsimp only [FrV.num, FrV.val] at *
  have DV := fun (w' : World) (h : Below w.heap.size w w') => rdivide_any a b c e n d w' (Nat.lt_of_lt_of_le hw0 h.size) (by omega) (by omega) hd (hx1.below h) (hx2.below h)
  have hq := ExP.nd_mono (b := 10) (by omega) (Nat.div_le_self n d)
  have hr0 := ExP.nd_pos (b := 10) (x := n % d) (by omega)
  generalize n / d = q at *
  generalize n % d = r at *
  have PL := fun qa qc g (w' : World) h1 h2 => rplus_any qa (some ⟨g, 0, none⟩) qc 1 q 1 w' (by omega) (by omega) h1 h2
  rw [hn1, hv1] at PL
  have fin : ∀ (Z : Nat) (w' : World) (β : Nat → Nat) (qa : Option Addr) (qc g : Nat), SlAt qa (nv .i64 10 Z) w' → FreshX qa (nv .i64 10 Z) w → (qa = none → qc = 0) → ExP.nd 10 Z ≤ qc → SlAt (some ⟨g, 0, none⟩) [.int .i64 1] w' → FreshX (some ⟨g, 0, none⟩) [.int .i64 1] w → Below w.heap.size w w' →
      FrOut .i64 10 ⟨m, Z, 1⟩ w (.returned (.agg #[.bool m, .slice qa (ExP.nd 10 Z) qc, .slice (some ⟨g, 0, none⟩) 1 1])) w' := fun Z w' β qa qc g g1 g2 g3 g4 g5 g6 g7 =>
    ⟨⟨m, Z, 1, qa, qc, some ⟨g, 0, none⟩, 1⟩, by simp only [FrV.val, hn1], rfl, ⟨g3, (fun h => by cases h), g4, by dsimp only; omega⟩, Ls2 g1 g2 (by dsimp only; rw [hv1]; exact g5) (by dsimp only; rw [hv1]; exact g6), g7⟩
  cases m with
  | false =>
    rw [if_neg (by simp), Nat.add_zero]
    refine enter env_ok Tryz.func35 rfl Tryz.results35 Tryz.ntmps35 [] [] [.agg [.bool false, .any (.slice a (ExP.nd 10 n) c), .any (.slice b (ExP.nd 10 d) e)]] ⟨⟨trivial, rfl, rfl, trivial⟩, trivial⟩ (Nat.le_of_ble_eq_true rfl) w _ 1000 ?_
    repeat' (first | ((with_reducible first | show wpS _ _ _ _ | show putD _ _ _ _ | show putW _ _ _ _ | show splitG _ _ _ | show wpQ _ _ _ _ _ _ | show wpD _ _ _ _ _ _ _ | show wpX _ _ _ _ _ _ _ | show expX _ _ _ _ _ _ | show stepX _ _ _ _ | show keepR _ _ _ | show wpY _ _ _ _); conv => whnf) | ((with_reducible show RetN _ _ _); refine retB fun β => ?_) | ((with_reducible show _ ∧ _); first | (apply And.intro; (· intro h; exfalso; first | omega | (revert h; decide)); intro _) | (apply And.intro; rotate_left; (· intro h; exfalso; first | omega | (revert h; decide)); intro _) | (refine ⟨fun _ => ?_, fun _ => ?_⟩) | (apply And.intro; · kernel_rfl) | (apply And.intro; · (show inK _ _; unfold inK; omega)) | (apply And.intro; · (show (_ : Int) ≤ 9223372036854775807; (try simp only [List.length_append, List.length_drop, List.length_take, List.length_cons, List.length_nil]); omega))) | ((with_reducible show AllBe _); refine allBe fun βe => ?_; conv => whnf) | ((with_reducible show bothX _ _); refine bothI ?_ ?_; conv => whnf) | (with_reducible exact trivial) | ((with_reducible show CallN _ _ _ _ _ _ _ _); refine call_of env_ok rfl 1000 ?_) | ((with_reducible show XopN _ _ _ _ _ _); refine xop_of env_ok rfl 1000 ?_) | ((with_reducible show CallX _ _ _ _ _ _); first | (refine callNat2 .i64 10 q r hw0 (by kernel_rfl) rfl (fun β w' hm => DV w' hm.below) (fun u1 v1 u2 v2 k1 k2 k3 k4 k5 k6 => ?_))) | ((with_reducible show OpX _ _ _ _); first | (refine opx_build1 (sz := 1) rfl rfl rfl (xs := [.int .i64 1]) (fun β => rfl) rfl (by omega) (by omega) hu hsz hzv (fun g1 => ?_))) | ((with_reducible show ∃ _ : SV, _); first | (refine ⟨_, ?ok, x_len Tryz.underlying34, ?_⟩; (case ok => exact fun _ _ => trivial))) | ((with_reducible show ∃ _, _); first | fail))
    all_goals first | (exfalso; simp_all; done) | skip
    all_goals refine ret fun β w' hm => ?_
    all_goals exact fin q w' β u1 v1 g1 (by first | exact hm.slF 2 rfl | exact hm.slF 3 rfl | exact hm.slF 4 rfl | exact hm.slF 5 rfl | exact hm.slF 6 rfl | exact hm.slF 7 rfl | exact hm.slF 8 rfl | exact hm.slF 9 rfl) (by first | exact hm.freshF 2 rfl rfl | exact hm.freshF 3 rfl rfl | exact hm.freshF 4 rfl rfl | exact hm.freshF 5 rfl rfl | exact hm.freshF 6 rfl rfl | exact hm.freshF 7 rfl rfl | exact hm.freshF 8 rfl rfl | exact hm.freshF 9 rfl rfl) k1 k2 (hm.own 4 rfl).1 (fresh_own (hm.own 4 rfl).2.1 rfl) hm.below
  | true =>
    by_cases hr : r = 0
    · rw [if_neg (by simp [hr]), Nat.add_zero]
      refine enter env_ok Tryz.func35 rfl Tryz.results35 Tryz.ntmps35 [] [] [.agg [.bool true, .any (.slice a (ExP.nd 10 n) c), .any (.slice b (ExP.nd 10 d) e)]] ⟨⟨trivial, rfl, rfl, trivial⟩, trivial⟩ (Nat.le_of_ble_eq_true rfl) w _ 1000 ?_
      repeat' (first | ((with_reducible first | show wpS _ _ _ _ | show putD _ _ _ _ | show putW _ _ _ _ | show splitG _ _ _ | show wpQ _ _ _ _ _ _ | show wpD _ _ _ _ _ _ _ | show wpX _ _ _ _ _ _ _ | show expX _ _ _ _ _ _ | show stepX _ _ _ _ | show keepR _ _ _ | show wpY _ _ _ _); conv => whnf) | ((with_reducible show RetN _ _ _); refine retB fun β => ?_) | ((with_reducible show _ ∧ _); first | (apply And.intro; (· intro h; exfalso; first | omega | (revert h; decide)); intro _) | (apply And.intro; rotate_left; (· intro h; exfalso; first | omega | (revert h; decide)); intro _) | (refine ⟨fun _ => ?_, fun _ => ?_⟩) | (apply And.intro; · kernel_rfl) | (apply And.intro; · (show inK _ _; unfold inK; omega)) | (apply And.intro; · (show (_ : Int) ≤ 9223372036854775807; (try simp only [List.length_append, List.length_drop, List.length_take, List.length_cons, List.length_nil]); omega))) | ((with_reducible show AllBe _); refine allBe fun βe => ?_; conv => whnf) | ((with_reducible show bothX _ _); refine bothI ?_ ?_; conv => whnf) | (with_reducible exact trivial) | ((with_reducible show CallN _ _ _ _ _ _ _ _); refine call_of env_ok rfl 1000 ?_) | ((with_reducible show XopN _ _ _ _ _ _); refine xop_of env_ok rfl 1000 ?_) | ((with_reducible show CallX _ _ _ _ _ _); first | (refine callNat2 .i64 10 q r hw0 (by kernel_rfl) rfl (fun β w' hm => DV w' hm.below) (fun u1 v1 u2 v2 k1 k2 k3 k4 k5 k6 => ?_))) | ((with_reducible show OpX _ _ _ _); first | (refine opx_build1 (sz := 1) rfl rfl rfl (xs := [.int .i64 1]) (fun β => rfl) rfl (by omega) (by omega) hu hsz hzv (fun g1 => ?_))) | ((with_reducible show ∃ _ : SV, _); first | (refine ⟨_, ?ok, x_len Tryz.underlying34, ?_⟩; (case ok => exact fun _ _ => trivial))) | ((with_reducible show ∃ _, _); first | fail))
      all_goals first | (exfalso; omega) | (exfalso; simp_all; done) | skip
      all_goals refine ret fun β w' hm => ?_
      all_goals exact fin q w' β u1 v1 g1 (by first | exact hm.slF 2 rfl | exact hm.slF 3 rfl | exact hm.slF 4 rfl | exact hm.slF 5 rfl | exact hm.slF 6 rfl | exact hm.slF 7 rfl | exact hm.slF 8 rfl | exact hm.slF 9 rfl) (by first | exact hm.freshF 2 rfl rfl | exact hm.freshF 3 rfl rfl | exact hm.freshF 4 rfl rfl | exact hm.freshF 5 rfl rfl | exact hm.freshF 6 rfl rfl | exact hm.freshF 7 rfl rfl | exact hm.freshF 8 rfl rfl | exact hm.freshF 9 rfl rfl) k1 k2 (hm.own 4 rfl).1 (fresh_own (hm.own 4 rfl).2.1 rfl) hm.below
    · rw [if_pos ⟨rfl, hr⟩]
      refine enter env_ok Tryz.func35 rfl Tryz.results35 Tryz.ntmps35 [] [] [.agg [.bool true, .any (.slice a (ExP.nd 10 n) c), .any (.slice b (ExP.nd 10 d) e)]] ⟨⟨trivial, rfl, rfl, trivial⟩, trivial⟩ (Nat.le_of_ble_eq_true rfl) w _ 1000 ?_
      repeat' (first | ((with_reducible first | show wpS _ _ _ _ | show putD _ _ _ _ | show putW _ _ _ _ | show splitG _ _ _ | show wpQ _ _ _ _ _ _ | show wpD _ _ _ _ _ _ _ | show wpX _ _ _ _ _ _ _ | show expX _ _ _ _ _ _ | show stepX _ _ _ _ | show keepR _ _ _ | show wpY _ _ _ _); conv => whnf) | ((with_reducible show RetN _ _ _); refine retB fun β => ?_) | ((with_reducible show _ ∧ _); first | (apply And.intro; (· intro h; exfalso; first | omega | (revert h; decide)); intro _) | (apply And.intro; rotate_left; (· intro h; exfalso; first | omega | (revert h; decide)); intro _) | (refine ⟨fun _ => ?_, fun _ => ?_⟩) | (apply And.intro; · kernel_rfl) | (apply And.intro; · (show inK _ _; unfold inK; omega)) | (apply And.intro; · (show (_ : Int) ≤ 9223372036854775807; (try simp only [List.length_append, List.length_drop, List.length_take, List.length_cons, List.length_nil]); omega))) | ((with_reducible show AllBe _); refine allBe fun βe => ?_; conv => whnf) | ((with_reducible show bothX _ _); refine bothI ?_ ?_; conv => whnf) | (with_reducible exact trivial) | ((with_reducible show CallN _ _ _ _ _ _ _ _); refine call_of env_ok rfl 1000 ?_) | ((with_reducible show XopN _ _ _ _ _ _); refine xop_of env_ok rfl 1000 ?_) | ((with_reducible show CallX _ _ _ _ _ _); first | (refine callNat2 .i64 10 q r hw0 (by kernel_rfl) rfl (fun β w' hm => DV w' hm.below) (fun u1 v1 u2 v2 k1 k2 k3 k4 k5 k6 => ?_)) | (refine callNat .i64 10 (q + 1) hw0 (by kernel_rfl) rfl (fun β w' hm => PL u1 v1 g0 w' (hm.slF 2 rfl) (hm.own 4 rfl).1) (fun u3 v3 k7 k8 k9 => ?_))) | ((with_reducible show OpX _ _ _ _); first | (refine opx_build1 (sz := 1) rfl rfl rfl (xs := [.int .i64 1]) (fun β => rfl) rfl (by omega) (by omega) hu hsz hzv (fun g0 => ?_))) | ((with_reducible show ∃ _ : SV, _); first | (refine ⟨_, ?ok, x_len Tryz.underlying34, ?_⟩; (case ok => exact fun _ _ => trivial))) | ((with_reducible show ∃ _, _); first | fail))
      all_goals first | (exfalso; omega) | (exfalso; simp_all; done) | skip
      all_goals refine ret fun β w' hm => ?_
      all_goals exact fin (q + 1) w' β u3 v3 g0 (by first | exact hm.slF 2 rfl | exact hm.slF 3 rfl | exact hm.slF 4 rfl | exact hm.slF 5 rfl | exact hm.slF 6 rfl | exact hm.slF 7 rfl | exact hm.slF 8 rfl | exact hm.slF 9 rfl) (by first | exact hm.freshF 2 rfl rfl | exact hm.freshF 3 rfl rfl | exact hm.freshF 4 rfl rfl | exact hm.freshF 5 rfl rfl | exact hm.freshF 6 rfl rfl | exact hm.freshF 7 rfl rfl | exact hm.freshF 8 rfl rfl | exact hm.freshF 9 rfl rfl) k7 k8 (hm.own 6 rfl).1 (fresh_own (hm.own 6 rfl).2.1 rfl) hm.below
end Go.Proofs.YtfodbfbljeeojaaGreatDoor
namespace Go.Proofs.YtfodbfbljeeojaaGreatDoor
attribute [local irreducible] ExP.nd ExP.dig ExP.upd
namespace ExP
theorem cmp_ff (a b c d : Nat) : sgn (sumN ⟨false, a, b⟩ (negN ⟨false, c, d⟩)) = if c * b = a * d then 0 else if c * b < a * d then 1 else -1 := by
  unfold sumN negN
  dsimp only
  rw [if_neg (by decide)]
  by_cases h : c * b ≤ a * d
  · rw [if_pos h]
    unfold sgn
    dsimp only
    by_cases h2 : c * b = a * d
    · rw [if_pos h2]; exact if_pos (by omega)
    · rw [if_neg h2, if_pos (show c * b < a * d by omega)]
      rw [if_neg (show ¬ a * d - c * b = 0 by omega)]
      rfl
  · rw [if_neg h]
    unfold sgn
    dsimp only
    rw [if_neg (show ¬ c * b = a * d by omega), if_neg (show ¬ c * b < a * d by omega), if_neg (show ¬ c * b - a * d = 0 by omega)]
    rfl
theorem root_facts {A B P S n d : Nat} (hB : 0 < B) (hP : 0 < P) (hd : 0 < d) (h1 : S * S ≤ A * (P * P) / B) (h2 : A * (P * P) / B < (S + 1) * (S + 1)) (hn : n * P = S * d) :
    (n * P) / d * d = (n * P) * 1 ∧ n * n * B ≤ A * (d * d) ∧ A * ((d * P) * (d * P)) < (n * P + 1 * d) * (n * P + 1 * d) * B := by
  have hPP : 0 < P * P := Nat.mul_pos hP hP
  have hdd : 0 < d * d := Nat.mul_pos hd hd
  have q1 : S * S * B ≤ A * (P * P) := (Nat.le_div_iff_mul_le hB).1 h1
  have q2 : A * (P * P) < (S + 1) * (S + 1) * B := by
    rcases Nat.lt_or_ge (A * (P * P)) ((S + 1) * (S + 1) * B) with h | h
    · exact h
    · have := (Nat.le_div_iff_mul_le hB).2 h
      omega
  refine ⟨?_, ?_, ?_⟩
  · rw [hn, Nat.mul_div_cancel _ hd, Nat.mul_one]
  · have e1 : n * n * B * (P * P) = (n * P) * (n * P) * B := by ac_rfl
    have e2 : (S * d) * (S * d) * B = S * S * B * (d * d) := by ac_rfl
    have e3 : A * (d * d) * (P * P) = A * (P * P) * (d * d) := by ac_rfl
    refine Nat.le_of_mul_le_mul_right ?_ hPP
    rw [e1, hn, e2, e3]
    exact Nat.mul_le_mul_right _ q1
  · have e1 : A * ((d * P) * (d * P)) = A * (P * P) * (d * d) := by ac_rfl
    have e2 : (S * d + 1 * d) * (S * d + 1 * d) * B = (S + 1) * (S + 1) * B * (d * d) := by
      rw [← Nat.add_mul]; ac_rfl
    rw [e1, hn, e2]
    exact Nat.mul_lt_mul_of_pos_right q2 hdd
/-- a minus sign stands before no zero -/
theorem read_minus {f : Fr} (h : readE f = 0) (hm : (readN f).m = true) : (readN f).n ≠ 0 := by
  have h1 := h
  unfold readE at h1
  split at h1
  · omega
  rename_i hb
  simp only [not_or, Bool.not_eq_false] at hb
  have hne : (cutM f.1).1 ≠ [48] := fun h0 => hb.2.2.2 ⟨h0, hm⟩
  exact Nat.ne_of_gt (val_pos hb.1 hne)
theorem rt_ok {x : Num} {p : Nat} (hx : nd 10 x.n ≤ 300) (hp : p ≤ 100) : (rtN x p).m = false ∧ 0 < (rtN x p).d ∧ nd 10 (rtN x p).n ≤ 300 ∧ nd 10 (rtN x p).d ≤ 300 := by
  refine ⟨rfl, Nat.pow_pos (by omega), ?_, ?_⟩
  · have h1 := (isq_spec (rtQ x p)).1
    have h2 := lt_pow_mono (b := 10) (by omega) (nd_lt (by omega) x.n) hx
    obtain ⟨hf, hhf⟩ : ∃ hf, hf = 250 := ⟨_, rfl⟩
    have key : ∀ m, x.n < 10 ^ m → m + 2 * p ≤ 2 * hf → rtQ x p < 10 ^ (2 * hf) := fun m hm hmp => by
      unfold rtQ
      refine Nat.lt_of_le_of_lt (Nat.div_le_self _ _) ?_
      have h3 : x.n * 10 ^ (2 * p) < 10 ^ m * 10 ^ (2 * p) := Nat.mul_lt_mul_of_pos_right hm (Nat.pow_pos (by omega))
      rw [← Nat.pow_add] at h3
      exact Nat.lt_of_lt_of_le h3 (Nat.pow_le_pow_right (by omega) hmp)
    have h4 := sq_lt h1 (key 300 h2 (by omega))
    exact Nat.le_trans (nd_le (by omega) h4) (by omega)
  · show nd 10 (10 ^ p) ≤ 300
    rw [nd_ten10]; omega
end ExP
end Go.Proofs.YtfodbfbljeeojaaGreatDoor
