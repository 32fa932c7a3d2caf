/- Fractions of the program: Neg, two, Add, Sub, Mul, Div, Compare. Fractions of the program: Compare. -/
import Derived.Test.YtdkhkfdenlabaaaGreatDoorKGO
set_option linter.unusedSimpArgs false
set_option linter.unusedVariables false
namespace Go.Proofs.YtdkhkfdenlabaaaGreatDoor
open Go.RowKit
open Sym
attribute [local irreducible] Calls Sym.AggEq ExP.nd ExP.dig ExP.upd
theorem ExP.readV_ok {f : ExP.Fr} (h : ExP.readE f = 0) : ExP.readV f = ExP.readN f := if_pos h
theorem ExP.read_nd {f : ExP.Fr} (h : ExP.readE f = 0) {b : Nat} (hb : 10 ≤ b) : ExP.nd b (ExP.readN f).n ≤ 300 ∧ ExP.nd b (ExP.readN f).d ≤ 300 ∧ 0 < (ExP.readN f).d := by
  obtain ⟨h1, h2, h3, h4, h5, h6, h7⟩ := ExP.read_ok h
  exact ⟨Nat.le_trans (ExP.nd_val hb (ExP.digits_ne h1).2) h4, Nat.le_trans (ExP.nd_val hb (ExP.digits_ne h2).2) h5, h7⟩
theorem ExP.both_ok {f g : ExP.Fr} (h : ExP.bothE f g = 0) : ExP.readE f = 0 ∧ ExP.readE g = 0 := by
  unfold ExP.bothE at h
  split at h
  · exact ⟨by assumption, h⟩
  · exact absurd h (by assumption)
theorem FrIn.of {k : IntKind} {b : Nat} {m : Bool} {n d : Nat} {a a2 : Option Addr} {c c2 : Nat} {w : World} (h1 : SlAt a (nv k b n) w) (h2 : SlAt a2 (nv k b d) w) (h3 : FrCap b ⟨m, n, d, a, c, a2, c2⟩) : FrIn k b ⟨m, n, d, a, c, a2, c2⟩ w := ⟨h1, h2, h3⟩
/-- what a binary operation answers -/
def ExP.twoF (f g : ExP.Fr) (N : ExP.Num) (e : Int) : ExP.Fr := if ExP.bothE f g = 0 then (if e = 0 then ExP.writeF N else ([], [])) else ([], [])
def ExP.twoE (f g : ExP.Fr) (N : ExP.Num) (e : Int) : Int := if ExP.bothE f g = 0 then (if e = 0 then ExP.writeE N else e) else ExP.bothE f g
set_option maxRecDepth 100000 in
set_option maxHeartbeats 4000000 in
theorem two_any (fid : FuncId) (hf : entersB Tryz.prog fid = true) (f g : ExP.Fr) (N : ExP.Num) (e : Int) (w : World) (hw : XW w) (hw0 : 0 < w.heap.size) (h1 : f.1.length ≤ 9223372036854775807) (h2 : f.2.length ≤ 9223372036854775807) (h3 : g.1.length ≤ 9223372036854775807) (h4 : g.2.length ≤ 9223372036854775807)
    (HF : ExP.bothE f g = 0 → ∀ (x y : FrV) (w' : World), 0 < w'.heap.size → FrIn .u32 1000000000 x w' → FrIn .u32 1000000000 y w' → x.num = ExP.readN f → y.num = ExP.readN g → Calls Tryz.prog fid #[x.val 1000000000, y.val 1000000000] w' (FrOutE .u32 1000000000 N e w'))
    (HN : ExP.bothE f g = 0 → e = 0 → 0 < N.d ∧ ExP.nd 1000000000 N.n ≤ 1000000 ∧ ExP.nd 1000000000 N.d ≤ 1000000) :
    Calls Tryz.prog 170 #[frV f, frV g, .func (.func fid) #[] #[]] w (WrOut (ExP.twoF f g N e) (ExP.twoE f g N e) w) := by
  have R1 := fun (w' : World) (h : Below w.heap.size w w') => both_any f g w' (Nat.lt_of_lt_of_le hw0 h.size) h1 h2 h3 h4
  by_cases hE : ExP.bothE f g = 0
  · obtain ⟨hE1, hE2⟩ := ExP.both_ok hE
    have hV := ExP.readV_ok hE1
    have hY : ExP.bothY f g = ExP.readN g := by rw [ExP.bothY, if_pos hE1, ExP.readV_ok hE2]
    replace HF := HF hE
    replace HN := HN hE
    rw [ExP.twoF, ExP.twoE, if_pos hE, if_pos hE]
    rw [hE, hV, hY] at R1
    have W1 := fun (x : FrV) (w' : World) (h : Below w.heap.size w w') => write_any x w' (hw.below h) (Nat.lt_of_lt_of_le hw0 h.size)
    have HF' := fun (x y : FrV) (w' : World) (h : Below w.heap.size w w') => HF x y w' (Nat.lt_of_lt_of_le hw0 h.size)
    clear HF
    generalize ExP.readN f = V at *
    generalize ExP.readN g = Y at *
    obtain ⟨m, n, d⟩ := V
    obtain ⟨m', n', d'⟩ := Y
    obtain ⟨M, P, D⟩ := N
    dsimp only at *
    obtain ⟨f1, f2⟩ := f
    obtain ⟨g1, g2⟩ := g
    refine enter env_ok Tryz.func170 rfl Tryz.results170 Tryz.ntmps170 [] [200004] [.agg [.str f1, .str f2], .agg [.str g1, .str g2], .fn fid []] (by simp [SV.oks, SV.ok]) (Nat.le_of_ble_eq_true rfl) w _ 1000 ?_
    repeat' (first | ((with_reducible first | show wpS .. | show putD .. | show putW .. | show splitG .. | show wpQ .. | show wpD .. | show wpX .. | show expX .. | show stepX .. | show keepR .. | show wpY ..); conv => whnf) | ((with_reducible show RetN ..); refine retB fun β => ?_) | ((with_reducible show _ ∧ _); first | (refine ⟨fun h => absurd h (by first | omega | decide), fun _ => ?_⟩) | (refine ⟨fun _ => ?_, fun h => absurd h (by first | omega | decide)⟩) | (refine ⟨fun _ => ?_, fun _ => ?_⟩) | (apply And.intro; · kernel_rfl) | (apply And.intro; · (show inK _ _; unfold inK; omega)) | (apply And.intro; · (show (_ : Int) ≤ 9223372036854775807; (try simp only [lenS]); omega))) | ((with_reducible show AllBe ..); refine allBe fun βe => ?_; conv => whnf) | ((with_reducible show bothX ..); refine bothI ?_ ?_; conv => whnf) | (with_reducible exact trivial) | ((with_reducible show CallN ..); refine call_of env_ok rfl 1000 ?_) | ((with_reducible show XopN ..); refine xop_of env_ok rfl 1000 ?_) | ((with_reducible show CallX ..); first | (refine callFrEE .u32 1000000000 ⟨m, n, d⟩ ⟨m', n', d'⟩ 0 hw0 (by kernel_rfl) rfl (fun β w' hm => R1 w' hm.below) (fun a1 c1 a2 c2 b1 e1 b2 e2 hcap hcap2 => ?_)) | (refine callFrE .u32 1000000000 ⟨M, P, D⟩ e hw0 hf rfl (fun β w' hm => HF' ⟨m, n, d, a1, c1, a2, c2⟩ ⟨m', n', d', b1, e1, b2, e2⟩ w' hm.below (FrIn.of (hm.slF 3 rfl) (hm.slF 4 rfl) hcap) (FrIn.of (hm.slF 5 rfl) (hm.slF 6 rfl) hcap2) rfl rfl) (fun a3 c3 a4 c4 hcap3 => ?_)) | (refine callX (.tup [.agg [.str (ExP.writeF ⟨M, P, D⟩).1, .str (ExP.writeF ⟨M, P, D⟩).2], .int .i64 (ExP.writeE ⟨M, P, D⟩)]) (by kernel_rfl) rfl (⟨⟨trivial, trivial, trivial⟩, trivial, trivial⟩) (fun β w hm => W1 ⟨M, P, D, a3, c3, a4, c4⟩ w hm.below (FrIn.of (hm.slF 9 rfl) (hm.slF 10 rfl) hcap3) (HN (Decidable.not_not.1 (by assumption))).1 (HN (Decidable.not_not.1 (by assumption))).2.1 (HN (Decidable.not_not.1 (by assumption))).2.2) ?_)) | ((with_reducible show OpX ..); first | fail) | ((with_reducible show ∃ _ : SV, _); first | fail) | ((with_reducible show ∃ _, _); first | fail))
    all_goals first | (exfalso; simp_all; done) | skip
    · rename_i h0
      rw [if_neg h0, if_neg h0]; rfl
    · rename_i h0
      simp only [Decidable.not_not] at h0
      rw [if_pos h0, if_pos h0]; rfl
  · rw [ExP.twoF, ExP.twoE, if_neg hE, if_neg hE]
    generalize ExP.bothE f g = E at *
    generalize ExP.readV f = V at *
    generalize ExP.bothY f g = Y at *
    obtain ⟨m, n, d⟩ := V
    obtain ⟨m', n', d'⟩ := Y
    obtain ⟨f1, f2⟩ := f
    obtain ⟨g1, g2⟩ := g
    refine enter env_ok Tryz.func170 rfl Tryz.results170 Tryz.ntmps170 [] [200004] [.agg [.str f1, .str f2], .agg [.str g1, .str g2], .fn fid []] (by simp [SV.oks, SV.ok]) (Nat.le_of_ble_eq_true rfl) w _ 1000 ?_
    repeat' (first | ((with_reducible first | show wpS .. | show putD .. | show putW .. | show splitG .. | show wpQ .. | show wpD .. | show wpX .. | show expX .. | show stepX .. | show keepR .. | show wpY ..); conv => whnf) | ((with_reducible show RetN ..); refine retB fun β => ?_) | ((with_reducible show _ ∧ _); first | (refine ⟨fun h => absurd h (by first | omega | decide), fun _ => ?_⟩) | (refine ⟨fun _ => ?_, fun h => absurd h (by first | omega | decide)⟩) | (refine ⟨fun _ => ?_, fun _ => ?_⟩) | (apply And.intro; · kernel_rfl) | (apply And.intro; · (show inK _ _; unfold inK; omega)) | (apply And.intro; · (show (_ : Int) ≤ 9223372036854775807; (try simp only [lenS]); omega))) | ((with_reducible show AllBe ..); refine allBe fun βe => ?_; conv => whnf) | ((with_reducible show bothX ..); refine bothI ?_ ?_; conv => whnf) | (with_reducible exact trivial) | ((with_reducible show CallN ..); refine call_of env_ok rfl 1000 ?_) | ((with_reducible show XopN ..); refine xop_of env_ok rfl 1000 ?_) | ((with_reducible show CallX ..); first | (refine callFrEE .u32 1000000000 ⟨m, n, d⟩ ⟨m', n', d'⟩ E hw0 (by kernel_rfl) rfl (fun β w' hm => R1 w' hm.below) (fun a1 c1 a2 c2 b1 e1 b2 e2 hcap hcap2 => ?_))) | ((with_reducible show OpX ..); first | fail) | ((with_reducible show ∃ _ : SV, _); first | fail) | ((with_reducible show ∃ _, _); first | fail))
    all_goals first | rfl | (exfalso; simp_all; done)
theorem ExP.mul_nd {b : Nat} (hb : 2 ≤ b) {x y : ExP.Num} {k : Nat} (h1 : ExP.nd b x.n ≤ k) (h2 : ExP.nd b x.d ≤ k) (h3 : ExP.nd b y.n ≤ k) (h4 : ExP.nd b y.d ≤ k) (h5 : 0 < x.d) (h6 : 0 < y.d) :
    0 < (ExP.mulN x y).d ∧ ExP.nd b (ExP.mulN x y).n ≤ 2 * k + 1 ∧ ExP.nd b (ExP.mulN x y).d ≤ 2 * k + 1 := by
  have e1 := ExP.nd_mul (b := b) (x := x.n) (y := y.n) hb
  have e3 := ExP.nd_mul (b := b) (x := x.d) (y := y.d) hb
  exact ⟨Nat.mul_pos h5 h6, by dsimp only [ExP.mulN]; omega, by dsimp only [ExP.mulN]; omega⟩
theorem ExP.le_of {p : Prop} {a b : Nat} (h : p ∧ a ≤ 2 * 300 + 1 ∧ b ≤ 2 * 300 + 1) : p ∧ a ≤ 1000000 ∧ b ≤ 1000000 := ⟨h.1, by omega, by omega⟩
/-- what the quotient is made of -/
def ExP.divN (x y : ExP.Num) : ExP.Num := if y.n = 0 then ⟨false, 0, 0⟩ else ExP.mulN x (ExP.invN y)
def ExP.divE (y : ExP.Num) : Int := if y.n = 0 then 1 else 0
set_option maxRecDepth 100000 in
set_option maxHeartbeats 4000000 in
theorem div_any (f g : ExP.Fr) (w : World) (hw : XW w) (hw0 : 0 < w.heap.size) (h1 : f.1.length ≤ 9223372036854775807) (h2 : f.2.length ≤ 9223372036854775807) (h3 : g.1.length ≤ 9223372036854775807) (h4 : g.2.length ≤ 9223372036854775807) :
    Calls Tryz.prog 112 #[frV f, frV g] w (WrOut (ExP.twoF f g (ExP.divN (ExP.readN f) (ExP.readN g)) (ExP.divE (ExP.readN g))) (ExP.twoE f g (ExP.divN (ExP.readN f) (ExP.readN g)) (ExP.divE (ExP.readN g))) w) := by
  have HT := fun (w' : World) (h : Below w.heap.size w w') => two_any 171 (by kernel_rfl) f g (ExP.divN (ExP.readN f) (ExP.readN g)) (ExP.divE (ExP.readN g)) w' (hw.below h) (Nat.lt_of_lt_of_le hw0 h.size) h1 h2 h3 h4 (fun hE x y w' hw0 hx hy ex ey => by
      obtain ⟨hE1, hE2⟩ := ExP.both_ok hE
      obtain ⟨q1, q2, q3⟩ := ExP.read_nd hE1 (b := 1000000000) (by omega)
      obtain ⟨q4, q5, q6⟩ := ExP.read_nd hE2 (b := 1000000000) (by omega)
      rw [← ex] at q1 q2 q3
      rw [← ey] at q4 q5 q6
      rw [← ex, ← ey]
      by_cases h0 : y.num.n = 0
      · rw [ExP.divN, ExP.divE, if_pos h0, if_pos h0]
        exact div1_zero x y w' hw0 hx hy h0 (by simp only [FrV.num] at q1; omega) (by simp only [FrV.num] at q2; omega) (by simp only [FrV.num] at q4; omega) (by simp only [FrV.num] at q5; omega)
      · rw [ExP.divN, ExP.divE, if_neg h0, if_neg h0]
        exact div1_any x y w' hw0 hx hy h0 (by simp only [FrV.num] at q1; omega) (by simp only [FrV.num] at q2; omega) (by simp only [FrV.num] at q4; omega) (by simp only [FrV.num] at q5; omega)) (fun hE he => by
      obtain ⟨hE1, hE2⟩ := ExP.both_ok hE
      obtain ⟨q1, q2, q3⟩ := ExP.read_nd hE1 (b := 1000000000) (by omega)
      obtain ⟨q4, q5, q6⟩ := ExP.read_nd hE2 (b := 1000000000) (by omega)
      exact by
        unfold ExP.divE at he
        split at he
        · cases he
        rename_i h0
        rw [ExP.divN, if_neg h0]
        exact ExP.le_of (ExP.mul_nd (by omega) q1 q2 q5 q4 q3 (Nat.pos_of_ne_zero h0)))
  generalize ExP.twoF f g (ExP.divN (ExP.readN f) (ExP.readN g)) (ExP.divE (ExP.readN g)) = F at *
  generalize ExP.twoE f g (ExP.divN (ExP.readN f) (ExP.readN g)) (ExP.divE (ExP.readN g)) = E at *
  obtain ⟨F1, F2⟩ := F
  obtain ⟨f1, f2⟩ := f
  obtain ⟨g1, g2⟩ := g
  refine enter env_ok Tryz.func112 rfl Tryz.results112 Tryz.ntmps112 [] [] [.agg [.str f1, .str f2], .agg [.str g1, .str g2]] (by simp [SV.oks, SV.ok]) (Nat.le_of_ble_eq_true rfl) w _ 1000 ?_
  repeat' (first | ((with_reducible first | show wpS .. | show putD .. | show putW .. | show splitG .. | show wpQ .. | show wpD .. | show wpX .. | show expX .. | show stepX .. | show keepR .. | show wpY ..); conv => whnf) | ((with_reducible show RetN ..); refine retB fun β => ?_) | ((with_reducible show _ ∧ _); first | (refine ⟨fun h => absurd h (by first | omega | decide), fun _ => ?_⟩) | (refine ⟨fun _ => ?_, fun h => absurd h (by first | omega | decide)⟩) | (refine ⟨fun _ => ?_, fun _ => ?_⟩) | (apply And.intro; · kernel_rfl) | (apply And.intro; · (show inK _ _; unfold inK; omega)) | (apply And.intro; · (show (_ : Int) ≤ 9223372036854775807; (try simp only [lenS]); omega))) | ((with_reducible show AllBe ..); refine allBe fun βe => ?_; conv => whnf) | ((with_reducible show bothX ..); refine bothI ?_ ?_; conv => whnf) | (with_reducible exact trivial) | ((with_reducible show CallN ..); refine call_of env_ok rfl 1000 ?_) | ((with_reducible show XopN ..); refine xop_of env_ok rfl 1000 ?_) | ((with_reducible show CallX ..); first | (refine callX (.tup [.agg [.str F1, .str F2], .int .i64 E]) (by kernel_rfl) rfl (⟨⟨trivial, trivial, trivial⟩, trivial, trivial⟩) (fun β w hm => HT w hm.below) ?_)) | ((with_reducible show OpX ..); first | fail) | ((with_reducible show ∃ _ : SV, _); first | fail) | ((with_reducible show ∃ _, _); first | fail))
  all_goals rfl
end Go.Proofs.YtdkhkfdenlabaaaGreatDoor
namespace Go.Proofs.YtdkhkfdenlabaaaGreatDoor
open Go.RowKit
open Sym
attribute [local irreducible] Calls Sym.AggEq ExP.nd ExP.dig ExP.upd
/-- the sign of a number -/
def ExP.sgn (x : ExP.Num) : Int := if x.n = 0 then 0 else if x.m = true then -1 else 1
set_option maxRecDepth 100000 in
set_option maxHeartbeats 4000000 in
theorem fcompare_any (f g : ExP.Fr) (w : World) (hw0 : 0 < w.heap.size) (h1 : f.1.length ≤ 9223372036854775807) (h2 : f.2.length ≤ 9223372036854775807) (h3 : g.1.length ≤ 9223372036854775807) (h4 : g.2.length ≤ 9223372036854775807) :
    Calls Tryz.prog 150 #[frV f, frV g] w fun e w' => e = .returned (.tuple #[.int .i64 (if ExP.bothE f g = 0 then ExP.sgn (ExP.sumN (ExP.readN f) (ExP.negN (ExP.readN g))) else 0), .int .i64 (ExP.bothE f g)]) ∧ Below w.heap.size w w' := by
  have R1 := fun (w' : World) (h : Below w.heap.size w w') => both_any f g w' (Nat.lt_of_lt_of_le hw0 h.size) h1 h2 h3 h4
  by_cases hE : ExP.bothE f g = 0
  · obtain ⟨hE1, hE2⟩ := ExP.both_ok hE
    obtain ⟨q1, q2, q3⟩ := ExP.read_nd hE1 (b := 1000000000) (by omega)
    obtain ⟨q4, q5, q6⟩ := ExP.read_nd hE2 (b := 1000000000) (by omega)
    have hV := ExP.readV_ok hE1
    have hY : ExP.bothY f g = ExP.readN g := by rw [ExP.bothY, if_pos hE1, ExP.readV_ok hE2]
    rw [if_pos hE]
    rw [hE, hV, hY] at R1
    rw [hE]
    generalize ExP.readN f = V at *
    generalize ExP.readN g = Y at *
    obtain ⟨m, n, d⟩ := V
    obtain ⟨m', n', d'⟩ := Y
    dsimp only [ExP.negN] at *
    have S1 := fun (x y : FrV) (w' : World) (h : Below w.heap.size w w') => sum_any x y w' (Nat.lt_of_lt_of_le hw0 h.size)
    obtain ⟨S, hS⟩ : ∃ S, S = ExP.sumN ⟨m, n, d⟩ ⟨!m', n', d'⟩ := ⟨_, rfl⟩
    rw [← hS]
    obtain ⟨M, P, D⟩ := S
    have hz := fun a c w' => zero_any a (ExP.nd 1000000000 P) c w'
    have hP : decide ((ExP.nd 1000000000 P : Int) = 0) = decide (P = 0) := by
      have := ExP.nd_pos (b := 1000000000) (x := P) (by omega)
      by_cases h0 : P = 0
      · rw [decide_eq_true h0, decide_eq_true (by omega)]
      · rw [decide_eq_false h0, decide_eq_false (by omega)]
    rw [hP] at hz
    obtain ⟨f1, f2⟩ := f
    obtain ⟨g1, g2⟩ := g
    refine enter env_ok Tryz.func150 rfl Tryz.results150 Tryz.ntmps150 [] [200005] [.agg [.str f1, .str f2], .agg [.str g1, .str g2]] (by simp [SV.oks, SV.ok]) (Nat.le_of_ble_eq_true rfl) w _ 1000 ?_
    repeat' (first | ((with_reducible first | show wpS .. | show putD .. | show putW .. | show splitG .. | show wpQ .. | show wpD .. | show wpX .. | show expX .. | show stepX .. | show keepR .. | show wpY ..); conv => whnf) | ((with_reducible show RetN ..); refine retB fun β => ?_) | ((with_reducible show _ ∧ _); first | (refine ⟨fun h => absurd h (by first | omega | decide), fun _ => ?_⟩) | (refine ⟨fun _ => ?_, fun h => absurd h (by first | omega | decide)⟩) | (refine ⟨fun _ => ?_, fun _ => ?_⟩) | (apply And.intro; · kernel_rfl) | (apply And.intro; · (show inK _ _; unfold inK; omega)) | (apply And.intro; · (show (_ : Int) ≤ 9223372036854775807; (try simp only [lenS]); omega))) | ((with_reducible show AllBe ..); refine allBe fun βe => ?_; conv => whnf) | ((with_reducible show bothX ..); refine bothI ?_ ?_; conv => whnf) | (with_reducible exact trivial) | ((with_reducible show CallN ..); refine call_of env_ok rfl 1000 ?_) | ((with_reducible show XopN ..); refine xop_of env_ok rfl 1000 ?_) | ((with_reducible show CallX ..); first | (refine callFrEE .u32 1000000000 ⟨m, n, d⟩ ⟨m', n', d'⟩ 0 hw0 (by kernel_rfl) rfl (fun β w' hm => R1 w' hm.below) (fun a1 c1 a2 c2 b1 e1 b2 e2 hcap hcap2 => ?_)) | (refine callFr .u32 1000000000 ⟨M, P, D⟩ hw0 (by kernel_rfl) rfl (fun β w' hm => hS ▸ S1 ⟨m, n, d, a1, c1, a2, c2⟩ ⟨!m', n', d', b1, e1, b2, e2⟩ w' hm.below (FrIn.of (hm.slF 2 rfl) (hm.slF 3 rfl) hcap) (FrIn.of (hm.slF 4 rfl) (hm.slF 5 rfl) ⟨hcap2.an, hcap2.bn, hcap2.cn, hcap2.cd⟩) (by dsimp only; omega) (by dsimp only; omega) (by dsimp only; omega) (by dsimp only; omega)) (fun a3 c3 a4 c4 hcap3 => ?_)) | (refine callX (.prop (P = 0) inferInstance) (by kernel_rfl) rfl (trivial) (fun β w hm => hz a3 c3 w) ?_)) | ((with_reducible show OpX ..); first | fail) | ((with_reducible show ∃ _ : SV, _); first | fail) | ((with_reducible show ∃ _, _); first | fail))
    all_goals first | (exfalso; simp_all; done) | skip
    all_goals simp only [SV.den, SV.dens, ExP.sgn]
    all_goals simp_all
  · rw [if_neg hE]
    generalize ExP.bothE f g = E at *
    generalize ExP.readV f = V at *
    generalize ExP.bothY f g = Y at *
    obtain ⟨m, n, d⟩ := V
    obtain ⟨m', n', d'⟩ := Y
    obtain ⟨f1, f2⟩ := f
    obtain ⟨g1, g2⟩ := g
    refine enter env_ok Tryz.func150 rfl Tryz.results150 Tryz.ntmps150 [] [200005] [.agg [.str f1, .str f2], .agg [.str g1, .str g2]] (by simp [SV.oks, SV.ok]) (Nat.le_of_ble_eq_true rfl) w _ 1000 ?_
    repeat' (first | ((with_reducible first | show wpS .. | show putD .. | show putW .. | show splitG .. | show wpQ .. | show wpD .. | show wpX .. | show expX .. | show stepX .. | show keepR .. | show wpY ..); conv => whnf) | ((with_reducible show RetN ..); refine retB fun β => ?_) | ((with_reducible show _ ∧ _); first | (refine ⟨fun h => absurd h (by first | omega | decide), fun _ => ?_⟩) | (refine ⟨fun _ => ?_, fun h => absurd h (by first | omega | decide)⟩) | (refine ⟨fun _ => ?_, fun _ => ?_⟩) | (apply And.intro; · kernel_rfl) | (apply And.intro; · (show inK _ _; unfold inK; omega)) | (apply And.intro; · (show (_ : Int) ≤ 9223372036854775807; (try simp only [lenS]); omega))) | ((with_reducible show AllBe ..); refine allBe fun βe => ?_; conv => whnf) | ((with_reducible show bothX ..); refine bothI ?_ ?_; conv => whnf) | (with_reducible exact trivial) | ((with_reducible show CallN ..); refine call_of env_ok rfl 1000 ?_) | ((with_reducible show XopN ..); refine xop_of env_ok rfl 1000 ?_) | ((with_reducible show CallX ..); first | (refine callFrEE .u32 1000000000 ⟨m, n, d⟩ ⟨m', n', d'⟩ E hw0 (by kernel_rfl) rfl (fun β w' hm => R1 w' hm.below) (fun a1 c1 a2 c2 b1 e1 b2 e2 hcap hcap2 => ?_))) | ((with_reducible show OpX ..); first | fail) | ((with_reducible show ∃ _ : SV, _); first | fail) | ((with_reducible show ∃ _, _); first | fail))
    all_goals first | rfl | (exfalso; simp_all; done)
end Go.Proofs.YtdkhkfdenlabaaaGreatDoor
