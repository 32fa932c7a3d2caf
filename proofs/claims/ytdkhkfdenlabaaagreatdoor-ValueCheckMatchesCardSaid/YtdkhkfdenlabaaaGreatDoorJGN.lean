/- Fractions of the program: read, both, Check. Fractions of the program: write. Decimal numbers read: the program's run, exponent, ten. -/
import Derived.Test.YtdkhkfdenlabaaaGreatDoorJGK
import Derived.Test.YtdkhkfdenlabaaaGreatDoorJGM
import Derived.Test.YtdkhkfdenlabaaaGreatDoorJGH
import Derived.Test.YtdkhkfdenlabaaaGreatDoorJGD
set_option linter.unusedSimpArgs false
set_option linter.unusedVariables false
namespace Go.Proofs.YtdkhkfdenlabaaaGreatDoor
open Go.RowKit
open Sym
attribute [local irreducible] Calls Sym.AggEq ExP.nd ExP.dig ExP.upd
theorem cutM_prefix (s : List UInt8) : Lib.trimPrefix s [45] = (ExP.cutM s).1 ∧ Lib.hasPrefix s [45] = (ExP.cutM s).2 := by
  cases s with
  | nil => exact ⟨rfl, rfl⟩
  | cons c r =>
    by_cases h : c = 45
    · subst h; simp [Lib.trimPrefix, Lib.hasPrefix, ExP.cutM]
    · have h' : ¬ 45 = c := fun e => h e.symm
      simp [Lib.trimPrefix, Lib.hasPrefix, ExP.cutM, h, List.isPrefixOf, beq_eq_false_iff_ne.2 h']
theorem cutM_any (s : List UInt8) (w : World) : Calls Tryz.prog 54 #[.string (bstr s), .string (bstr [45])] w fun e w' => e = .returned (.tuple #[.string (bstr (ExP.cutM s).1), .bool (ExP.cutM s).2]) ∧ Below w.heap.size w w' := by
  refine (Tryz.strings_CutPrefix (bstr s) (bstr [45]) w).mono ?_
  rintro e w' ⟨h, rfl⟩
  refine ⟨?_, Below.refl _ _⟩
  rw [h, show (bstr s).data.toList = s from rfl, show (bstr [45]).data.toList = [45] from rfl, (cutM_prefix s).1, (cutM_prefix s).2]; rfl
theorem cutM_len (s : List UInt8) : (ExP.cutM s).1.length ≤ s.length := by
  unfold ExP.cutM; split <;> simp
/-- what read answers -/
def ExP.readV (f : ExP.Fr) : ExP.Num := if ExP.readE f = 0 then ExP.readN f else ⟨false, 0, 0⟩
theorem ExP.readV_bad {f : ExP.Fr} {e : Int} (h : ExP.readE f = e) (he : e ≠ 0) : ExP.readV f = ⟨false, 0, 0⟩ := if_neg (by rw [h]; exact he)
/-- the number of limbs of a string of digits -/
theorem ExP.nd_val {b : Nat} {s : List UInt8} (hb : 10 ≤ b) (h : s.all ExP.digC = true) : ExP.nd b (ExP.valS s) ≤ s.length :=
  ExP.nd_le (by omega) (Nat.lt_of_lt_of_le (ExP.val_lt s h) (Nat.pow_le_pow_left hb _))
theorem FrOutE0 {k : IntKind} {b : Nat} {x : ExP.Num} {err : Int} {w w' : World} (hx : x = ⟨false, 0, 0⟩) (hb : Below w.heap.size w w') : FrOutE k b x err w (.returned (.tuple #[.agg #[.bool false, .slice none 0 0, .slice none 0 0], .int .i64 err])) w' := by
  subst hx
  exact ⟨⟨false, 0, 0, none, 0, none, 0⟩, by simp [FrV.val, ExP.nd_zero], rfl, FrCap0, Ls0, hb⟩
set_option maxRecDepth 100000 in
set_option maxHeartbeats 4000000 in
theorem read_any (f : ExP.Fr) (w : World) (hw0 : 0 < w.heap.size) (h1 : f.1.length ≤ 9223372036854775807) (h2 : f.2.length ≤ 9223372036854775807) :
    Calls Tryz.prog 135 #[.agg #[.string (bstr f.1), .string (bstr f.2)]] w (FrOutE .u32 1000000000 (ExP.readV f) (ExP.readE f) w) := by
  obtain ⟨f1, f2⟩ := f
  dsimp only at *
  have hE : ExP.readE (f1, f2) = if ExP.digitsP (ExP.cutM f1).1 = false ∨ ExP.digitsP f2 = false ∨ f2 = [48] ∨ ((ExP.cutM f1).1 = [48] ∧ (ExP.cutM f1).2 = true) then 4
    else if 300 < (ExP.cutM f1).1.length ∨ 300 < f2.length then 3
    else if Nat.gcd (ExP.valS (ExP.cutM f1).1) (ExP.valS f2) ≠ 1 then 4 else 0 := rfl
  have hV : ExP.readE (f1, f2) = 0 → ExP.readV (f1, f2) = ⟨(ExP.cutM f1).2, ExP.valS (ExP.cutM f1).1, ExP.valS f2⟩ := fun h => if_pos h
  have hB := fun e => ExP.readV_bad (f := (f1, f2)) (e := e)
  have hC := fun w => cutM_any f1 w
  have hL := cutM_len f1
  generalize ExP.readV (f1, f2) = V at *
  generalize ExP.readE (f1, f2) = E at *
  generalize (ExP.cutM f1).1 = s at *
  generalize (ExP.cutM f1).2 = m at *
  have hD1 := fun w => digits_any s w (by omega)
  have hD2 := fun w => digits_any f2 w (by omega)
  have hs1 := fun h => ExP.digits_ne (s := s) h
  have hs2 := fun h => ExP.digits_ne (s := f2) h
  have hp2 := fun h => ExP.val_pos (s := f2) h
  generalize ExP.digitsP s = d1 at *
  generalize ExP.digitsP f2 = d2 at *
  refine enter env_ok Tryz.func135 rfl Tryz.results135 Tryz.ntmps135 [] [200006] [.agg [.str f1, .str f2]] (by simp [SV.oks, SV.ok]) (Nat.le_of_ble_eq_true rfl) w _ 1000 ?_
  by_cases hbad : d1 = false ∨ d2 = false ∨ f2 = [48] ∨ (s = [48] ∧ m = true)
  · rw [if_pos hbad] at hE
    have hV0 := hB 4 hE (by decide)
    repeat' (first | ((with_reducible first | show wpS .. | show putD .. | show putW .. | show splitG .. | show wpQ .. | show wpD .. | show wpX .. | show expX .. | show stepX .. | show keepR .. | show wpY ..); conv => whnf) | ((with_reducible show RetN ..); refine retB fun β => ?_) | ((with_reducible show _ ∧ _); first | (refine ⟨fun h => absurd h (by first | omega | decide), fun _ => ?_⟩) | (refine ⟨fun _ => ?_, fun h => absurd h (by first | omega | decide)⟩) | (refine ⟨fun _ => ?_, fun _ => ?_⟩) | (apply And.intro; · kernel_rfl) | (apply And.intro; · (show inK _ _; unfold inK; omega)) | (apply And.intro; · (show (_ : Int) ≤ 9223372036854775807; (try simp only [lenS]); omega))) | ((with_reducible show AllBe ..); refine allBe fun βe => ?_; conv => whnf) | ((with_reducible show bothX ..); refine bothI ?_ ?_; conv => whnf) | (with_reducible exact trivial) | ((with_reducible show CallN ..); refine call_of env_ok rfl 1000 ?_) | ((with_reducible show XopN ..); refine xop_of env_ok rfl 1000 ?_) | ((with_reducible show CallX ..); first | (refine callX (.tup [.str s, .bool m]) (by kernel_rfl) rfl (⟨trivial, trivial, trivial⟩) (fun β w hm => hC w) ?_) | (refine callX (.bool d1) (by kernel_rfl) rfl (trivial) (fun β w hm => hD1 w) ?_) | (refine callX (.bool d2) (by kernel_rfl) rfl (trivial) (fun β w hm => hD2 w) ?_)) | ((with_reducible show OpX ..); first | fail) | ((with_reducible show ∃ _ : SV, _); first | fail) | ((with_reducible show ∃ _, _); first | fail))
    all_goals first | (exfalso; simp_all; done) | skip
    all_goals refine ret fun β w' hm => ?_
    all_goals (rw [hE]; exact FrOutE0 hV0 hm.below)
  · rw [if_neg hbad] at hE
    simp only [not_or, Bool.not_eq_false] at hbad
    obtain ⟨rfl, rfl, hz, hm0⟩ := hbad
    obtain ⟨-, ha1⟩ := hs1 rfl
    obtain ⟨-, ha2⟩ := hs2 rfl
    by_cases hlen : 300 < s.length ∨ 300 < f2.length
    · rw [if_pos hlen] at hE
      have hV0 := hB 3 hE (by decide)
      repeat' (first | ((with_reducible first | show wpS .. | show putD .. | show putW .. | show splitG .. | show wpQ .. | show wpD .. | show wpX .. | show expX .. | show stepX .. | show keepR .. | show wpY ..); conv => whnf) | ((with_reducible show RetN ..); refine retB fun β => ?_) | ((with_reducible show _ ∧ _); first | (refine ⟨fun h => absurd h (by first | omega | decide), fun _ => ?_⟩) | (refine ⟨fun _ => ?_, fun h => absurd h (by first | omega | decide)⟩) | (refine ⟨fun _ => ?_, fun _ => ?_⟩) | (apply And.intro; · kernel_rfl) | (apply And.intro; · (show inK _ _; unfold inK; omega)) | (apply And.intro; · (show (_ : Int) ≤ 9223372036854775807; (try simp only [lenS]); omega))) | ((with_reducible show AllBe ..); refine allBe fun βe => ?_; conv => whnf) | ((with_reducible show bothX ..); refine bothI ?_ ?_; conv => whnf) | (with_reducible exact trivial) | ((with_reducible show CallN ..); refine call_of env_ok rfl 1000 ?_) | ((with_reducible show XopN ..); refine xop_of env_ok rfl 1000 ?_) | ((with_reducible show CallX ..); first | (refine callX (.tup [.str s, .bool m]) (by kernel_rfl) rfl (⟨trivial, trivial, trivial⟩) (fun β w hm => hC w) ?_) | (refine callX (.lit true) (by kernel_rfl) rfl (trivial) (fun β w hm => hD1 w) ?_) | (refine callX (.lit true) (by kernel_rfl) rfl (trivial) (fun β w hm => hD2 w) ?_)) | ((with_reducible show OpX ..); first | fail) | ((with_reducible show ∃ _ : SV, _); first | fail) | ((with_reducible show ∃ _, _); first | fail))
      all_goals first | (exfalso; simp_all; done) | (exfalso; omega) | skip
      all_goals refine ret fun β w' hm => ?_
      all_goals (rw [hE]; exact FrOutE0 hV0 hm.below)
    · rw [if_neg hlen] at hE
      have hP1 := fun w => parse_any s w (by omega) ha1
      have hP2 := fun w => parse_any f2 w (by omega) ha2
      have hn1 := ExP.nd_val (b := 1000000000) (by omega) ha1
      have hn2 := ExP.nd_val (b := 1000000000) (by omega) ha2
      have hv2 := hp2 rfl hz
      generalize ExP.valS s = x at *
      generalize ExP.valS f2 = y at *
      have hgn := ExP.nd_mono (b := 1000000000) (by omega) (Nat.gcd_le_right x hv2)
      repeat' (first | ((with_reducible first | show wpS .. | show putD .. | show putW .. | show splitG .. | show wpQ .. | show wpD .. | show wpX .. | show expX .. | show stepX .. | show keepR .. | show wpY ..); conv => whnf) | ((with_reducible show RetN ..); refine retB fun β => ?_) | ((with_reducible show _ ∧ _); first | (refine ⟨fun h => absurd h (by first | omega | decide), fun _ => ?_⟩) | (refine ⟨fun _ => ?_, fun h => absurd h (by first | omega | decide)⟩) | (refine ⟨fun _ => ?_, fun _ => ?_⟩) | (apply And.intro; · kernel_rfl) | (apply And.intro; · (show inK _ _; unfold inK; omega)) | (apply And.intro; · (show (_ : Int) ≤ 9223372036854775807; (try simp only [lenS]); omega))) | ((with_reducible show AllBe ..); refine allBe fun βe => ?_; conv => whnf) | ((with_reducible show bothX ..); refine bothI ?_ ?_; conv => whnf) | (with_reducible exact trivial) | ((with_reducible show CallN ..); refine call_of env_ok rfl 1000 ?_) | ((with_reducible show XopN ..); refine xop_of env_ok rfl 1000 ?_) | ((with_reducible show CallX ..); first | (refine callX (.tup [.str s, .bool m]) (by kernel_rfl) rfl (⟨trivial, trivial, trivial⟩) (fun β w hm => hC w) ?_) | (refine callX (.lit true) (by kernel_rfl) rfl (trivial) (fun β w hm => hD1 w) ?_) | (refine callX (.lit true) (by kernel_rfl) rfl (trivial) (fun β w hm => hD2 w) ?_) | (refine callNat .u32 1000000000 x hw0 (by kernel_rfl) rfl (fun β w' hm => hP1 w') (fun a1 c1 q1 q2 q3 => ?_)) | (refine callNat .u32 1000000000 y hw0 (by kernel_rfl) rfl (fun β w' hm => hP2 w') (fun a2 c2 q4 q5 q6 => ?_)) | (refine callNatL (Lz x a1 (Lz y a2 [])) .u32 1000000000 (Nat.gcd x y) hw0 (by kernel_rfl) rfl (by repeat (first | exact apart_nil | refine apart_row 1 (Nat.le_of_ble_eq_true rfl) rfl ?_ | refine apart_row 2 (Nat.le_of_ble_eq_true rfl) rfl ?_ | refine apart_row 3 (Nat.le_of_ble_eq_true rfl) rfl ?_ | refine apart_row 4 (Nat.le_of_ble_eq_true rfl) rfl ?_ | refine apart_row 5 (Nat.le_of_ble_eq_true rfl) rfl ?_)) (fun β w' hm => common_any _ a1 a2 c1 c2 x y w' (Nat.lt_of_lt_of_le hw0 hm.base_le) (by omega) (by omega) q1 q2 q4 q5 Lz_in (fun h => Lz_mem (Lz_in h)) (by first | exact hm.slF 1 rfl | exact hm.slF 2 rfl | exact hm.slF 3 rfl | exact hm.slF 4 rfl | exact hm.slF 5 rfl | exact hm.slB 3 rfl | exact hm.slB 4 rfl | exact hm.slB 5 rfl | exact hm.slB 6 rfl) (by first | exact hm.slF 1 rfl | exact hm.slF 2 rfl | exact hm.slF 3 rfl | exact hm.slF 4 rfl | exact hm.slF 5 rfl | exact hm.slB 3 rfl | exact hm.slB 4 rfl | exact hm.slB 5 rfl | exact hm.slB 6 rfl)) (fun a3 c3 q7 q8 q9 => ?_)) | (refine callX (.bool (decide (Nat.gcd x y = 1))) (by kernel_rfl) rfl (trivial) (fun β w hm => one_any a3 c3 _ w (by omega) (by first | exact hm.slF 1 rfl | exact hm.slF 2 rfl | exact hm.slF 3 rfl | exact hm.slF 4 rfl | exact hm.slF 5 rfl | exact hm.slB 3 rfl | exact hm.slB 4 rfl | exact hm.slB 5 rfl | exact hm.slB 6 rfl)) ?_)) | ((with_reducible show OpX ..); first | fail) | ((with_reducible show ∃ _ : SV, _); first | fail) | ((with_reducible show ∃ _, _); first | fail))
      all_goals first | (exfalso; simp_all; done) | (exfalso; omega) | skip
      all_goals (refine ret fun β w' hm => ?_)
      all_goals first
        | (have hg : ¬ Nat.gcd x y = 1 := by simp_all
           rw [if_pos hg] at hE
           rw [hE]
           exact FrOutE0 (hB 4 hE (by decide)) hm.below)
        | (have hg : Nat.gcd x y = 1 := by simp_all
           rw [if_neg (not_not_intro hg)] at hE
           rw [hE, hV hE]
           exact ⟨⟨_, _, _, a1, c1, a2, c2⟩, rfl, rfl, ⟨q1, q4, q2, q5⟩, Ls2 (by first | exact hm.slF 2 rfl | exact hm.slF 3 rfl | exact hm.slF 4 rfl | exact hm.slF 5 rfl | exact hm.slF 6 rfl | exact hm.slF 7 rfl | exact hm.slF 8 rfl | exact hm.slF 9 rfl) (by first | exact hm.freshF 2 rfl rfl | exact hm.freshF 3 rfl rfl | exact hm.freshF 4 rfl rfl | exact hm.freshF 5 rfl rfl | exact hm.freshF 6 rfl rfl | exact hm.freshF 7 rfl rfl | exact hm.freshF 8 rfl rfl | exact hm.freshF 9 rfl rfl) (by first | exact hm.slF 2 rfl | exact hm.slF 3 rfl | exact hm.slF 4 rfl | exact hm.slF 5 rfl | exact hm.slF 6 rfl | exact hm.slF 7 rfl | exact hm.slF 8 rfl | exact hm.slF 9 rfl) (by first | exact hm.freshF 2 rfl rfl | exact hm.freshF 3 rfl rfl | exact hm.freshF 4 rfl rfl | exact hm.freshF 5 rfl rfl | exact hm.freshF 6 rfl rfl | exact hm.freshF 7 rfl rfl | exact hm.freshF 8 rfl rfl | exact hm.freshF 9 rfl rfl), hm.below⟩)
theorem LsA {k : IntKind} {b : Nat} {t u : FrV} {w w' : World} (h1 : ∀ p ∈ t.L k b, SlAt p.1 p.2 w' ∧ FreshX p.1 p.2 w) (h2 : ∀ p ∈ u.L k b, SlAt p.1 p.2 w' ∧ FreshX p.1 p.2 w) : ∀ p ∈ t.L k b ++ u.L k b, SlAt p.1 p.2 w' ∧ FreshX p.1 p.2 w := fun p hp => (List.mem_append.1 hp).elim (h1 p) (h2 p)
/-- the error of two fractions -/
def ExP.bothE (f g : ExP.Fr) : Int := if ExP.readE f = 0 then ExP.readE g else ExP.readE f
def ExP.bothY (f g : ExP.Fr) : ExP.Num := if ExP.readE f = 0 then ExP.readV g else ExP.readV f
set_option maxRecDepth 100000 in
theorem check_any (f : ExP.Fr) (w : World) (hw0 : 0 < w.heap.size) (h1 : f.1.length ≤ 9223372036854775807) (h2 : f.2.length ≤ 9223372036854775807) :
    Calls Tryz.prog 70 #[.agg #[.string (bstr f.1), .string (bstr f.2)]] w fun e w' => e = .returned (.int .i64 (ExP.readE f)) ∧ Below w.heap.size w w' := by
  have R1 := fun (w' : World) (h : Below w.heap.size w w') => read_any f w' (Nat.lt_of_lt_of_le hw0 h.size) h1 h2
  obtain ⟨f1, f2⟩ := f
  dsimp only at *
  generalize ExP.readV (f1, f2) = V at *
  generalize ExP.readE (f1, f2) = E at *
  refine enter env_ok Tryz.func70 rfl Tryz.results70 Tryz.ntmps70 [] [] [.agg [.str f1, .str f2]] (by simp [SV.oks, SV.ok]) (Nat.le_of_ble_eq_true rfl) w _ 1000 ?_
  repeat' (first | ((with_reducible first | show wpS .. | show putD .. | show putW .. | show splitG .. | show wpQ .. | show wpD .. | show wpX .. | show expX .. | show stepX .. | show keepR .. | show wpY ..); conv => whnf) | ((with_reducible show RetN ..); refine retB fun β => ?_) | ((with_reducible show _ ∧ _); first | (refine ⟨fun h => absurd h (by first | omega | decide), fun _ => ?_⟩) | (refine ⟨fun _ => ?_, fun h => absurd h (by first | omega | decide)⟩) | (refine ⟨fun _ => ?_, fun _ => ?_⟩) | (apply And.intro; · kernel_rfl) | (apply And.intro; · (show inK _ _; unfold inK; omega)) | (apply And.intro; · (show (_ : Int) ≤ 9223372036854775807; (try simp only [lenS]); omega))) | ((with_reducible show AllBe ..); refine allBe fun βe => ?_; conv => whnf) | ((with_reducible show bothX ..); refine bothI ?_ ?_; conv => whnf) | (with_reducible exact trivial) | ((with_reducible show CallN ..); refine call_of env_ok rfl 1000 ?_) | ((with_reducible show XopN ..); refine xop_of env_ok rfl 1000 ?_) | ((with_reducible show CallX ..); first | (refine callFrE .u32 1000000000 V E hw0 (by kernel_rfl) rfl (fun β w' hm => R1 w' hm.below) (fun a1 c1 a2 c2 hcap => ?_))) | ((with_reducible show OpX ..); first | fail) | ((with_reducible show ∃ _ : SV, _); first | fail) | ((with_reducible show ∃ _, _); first | fail))
  all_goals rfl
set_option maxRecDepth 100000 in
set_option maxHeartbeats 4000000 in
theorem both_any (f g : ExP.Fr) (w : World) (hw0 : 0 < w.heap.size) (h1 : f.1.length ≤ 9223372036854775807) (h2 : f.2.length ≤ 9223372036854775807) (h3 : g.1.length ≤ 9223372036854775807) (h4 : g.2.length ≤ 9223372036854775807) :
    Calls Tryz.prog 192 #[.agg #[.string (bstr f.1), .string (bstr f.2)], .agg #[.string (bstr g.1), .string (bstr g.2)]] w (FrOutEE .u32 1000000000 (ExP.readV f) (ExP.bothY f g) (ExP.bothE f g) w) := by
  have R1 := fun (w' : World) (h : Below w.heap.size w w') => read_any f w' (Nat.lt_of_lt_of_le hw0 h.size) h1 h2
  have R2 := fun (w' : World) (h : Below w.heap.size w w') => read_any g w' (Nat.lt_of_lt_of_le hw0 h.size) h3 h4
  have hB := fun e => ExP.readV_bad (f := f) (e := e)
  have hE : ExP.bothE f g = if ExP.readE f = 0 then ExP.readE g else ExP.readE f := rfl
  have hY : ExP.bothY f g = if ExP.readE f = 0 then ExP.readV g else ExP.readV f := rfl
  generalize ExP.bothE f g = E at *
  generalize ExP.bothY f g = Y at *
  obtain ⟨f1, f2⟩ := f
  obtain ⟨g1, g2⟩ := g
  dsimp only at *
  generalize ExP.readV (f1, f2) = V1 at *
  generalize ExP.readE (f1, f2) = E1 at *
  generalize ExP.readV (g1, g2) = V2 at *
  generalize ExP.readE (g1, g2) = E2 at *
  obtain ⟨m1, n1, d1⟩ := V1
  obtain ⟨m2, n2, d2⟩ := V2
  refine enter env_ok Tryz.func192 rfl Tryz.results192 Tryz.ntmps192 [] [200003, 200005] [.agg [.str f1, .str f2], .agg [.str g1, .str g2]] (by simp [SV.oks, SV.ok]) (Nat.le_of_ble_eq_true rfl) w _ 1000 ?_
  repeat' (first | ((with_reducible first | show wpS .. | show putD .. | show putW .. | show splitG .. | show wpQ .. | show wpD .. | show wpX .. | show expX .. | show stepX .. | show keepR .. | show wpY ..); conv => whnf) | ((with_reducible show RetN ..); refine retB fun β => ?_) | ((with_reducible show _ ∧ _); first | (refine ⟨fun h => absurd h (by first | omega | decide), fun _ => ?_⟩) | (refine ⟨fun _ => ?_, fun h => absurd h (by first | omega | decide)⟩) | (refine ⟨fun _ => ?_, fun _ => ?_⟩) | (apply And.intro; · kernel_rfl) | (apply And.intro; · (show inK _ _; unfold inK; omega)) | (apply And.intro; · (show (_ : Int) ≤ 9223372036854775807; (try simp only [lenS]); omega))) | ((with_reducible show AllBe ..); refine allBe fun βe => ?_; conv => whnf) | ((with_reducible show bothX ..); refine bothI ?_ ?_; conv => whnf) | (with_reducible exact trivial) | ((with_reducible show CallN ..); refine call_of env_ok rfl 1000 ?_) | ((with_reducible show XopN ..); refine xop_of env_ok rfl 1000 ?_) | ((with_reducible show CallX ..); first | (refine callFrE .u32 1000000000 ⟨m1, n1, d1⟩ E1 hw0 (by kernel_rfl) rfl (fun β w' hm => R1 w' hm.below) (fun a1 c1 a2 c2 hcap => ?_)) | (refine callFrE .u32 1000000000 ⟨m2, n2, d2⟩ E2 hw0 (by kernel_rfl) rfl (fun β w' hm => R2 w' hm.below) (fun b1 e1 b2 e2 hcap2 => ?_))) | ((with_reducible show OpX ..); first | fail) | ((with_reducible show ∃ _ : SV, _); first | fail) | ((with_reducible show ∃ _, _); first | fail))
  all_goals refine ret fun β w' hm => ?_
  · rename_i hne
    rw [if_neg hne] at hE hY
    cases hB _ rfl hne
    rw [hE, hY]
    exact ⟨⟨_, _, _, a1, c1, a2, c2⟩, ⟨_, _, _, a1, c1, a2, c2⟩, rfl, rfl, rfl, hcap, hcap, LsA Ls0 Ls0, hm.below⟩
  · rename_i heq
    simp only [Decidable.not_not] at heq
    rw [if_pos heq] at hE hY
    rw [hE, hY]
    exact ⟨⟨_, _, _, a1, c1, a2, c2⟩, ⟨_, _, _, b1, e1, b2, e2⟩, rfl, rfl, rfl, hcap, hcap2, LsA (Ls2 (by first | exact hm.slF 2 rfl | exact hm.slF 3 rfl | exact hm.slF 4 rfl | exact hm.slF 5 rfl | exact hm.slF 6 rfl | exact hm.slF 7 rfl | exact hm.slF 8 rfl | exact hm.slF 9 rfl) (by first | exact hm.freshF 2 rfl rfl | exact hm.freshF 3 rfl rfl | exact hm.freshF 4 rfl rfl | exact hm.freshF 5 rfl rfl | exact hm.freshF 6 rfl rfl | exact hm.freshF 7 rfl rfl | exact hm.freshF 8 rfl rfl | exact hm.freshF 9 rfl rfl) (by first | exact hm.slF 2 rfl | exact hm.slF 3 rfl | exact hm.slF 4 rfl | exact hm.slF 5 rfl | exact hm.slF 6 rfl | exact hm.slF 7 rfl | exact hm.slF 8 rfl | exact hm.slF 9 rfl) (by first | exact hm.freshF 2 rfl rfl | exact hm.freshF 3 rfl rfl | exact hm.freshF 4 rfl rfl | exact hm.freshF 5 rfl rfl | exact hm.freshF 6 rfl rfl | exact hm.freshF 7 rfl rfl | exact hm.freshF 8 rfl rfl | exact hm.freshF 9 rfl rfl)) (Ls2 (by first | exact hm.slF 2 rfl | exact hm.slF 3 rfl | exact hm.slF 4 rfl | exact hm.slF 5 rfl | exact hm.slF 6 rfl | exact hm.slF 7 rfl | exact hm.slF 8 rfl | exact hm.slF 9 rfl) (by first | exact hm.freshF 2 rfl rfl | exact hm.freshF 3 rfl rfl | exact hm.freshF 4 rfl rfl | exact hm.freshF 5 rfl rfl | exact hm.freshF 6 rfl rfl | exact hm.freshF 7 rfl rfl | exact hm.freshF 8 rfl rfl | exact hm.freshF 9 rfl rfl) (by first | exact hm.slF 2 rfl | exact hm.slF 3 rfl | exact hm.slF 4 rfl | exact hm.slF 5 rfl | exact hm.slF 6 rfl | exact hm.slF 7 rfl | exact hm.slF 8 rfl | exact hm.slF 9 rfl) (by first | exact hm.freshF 2 rfl rfl | exact hm.freshF 3 rfl rfl | exact hm.freshF 4 rfl rfl | exact hm.freshF 5 rfl rfl | exact hm.freshF 6 rfl rfl | exact hm.freshF 7 rfl rfl | exact hm.freshF 8 rfl rfl | exact hm.freshF 9 rfl rfl)), hm.below⟩
end Go.Proofs.YtdkhkfdenlabaaaGreatDoor
namespace Go.Proofs.YtdkhkfdenlabaaaGreatDoor
open Go.RowKit
open Sym
attribute [local irreducible] Calls Sym.AggEq ExP.nd ExP.dig ExP.upd
/-- a fraction as a value -/
abbrev frV (f : ExP.Fr) : Value := .agg #[.string (bstr f.1), .string (bstr f.2)]
/-- a function that answers with a fraction and an error -/
def WrOut (f : ExP.Fr) (err : Int) (w : World) (e : Ending) (w' : World) : Prop := e = .returned (.tuple #[frV f, .int .i64 err]) ∧ Below w.heap.size w w'
set_option maxRecDepth 100000 in
set_option maxHeartbeats 4000000 in
theorem write_any (x : FrV) (w : World) (hw : XW w) (hw0 : 0 < w.heap.size) (hx : FrIn .u32 1000000000 x w) (hd : 0 < x.d)
    (hxn : ExP.nd 1000000000 x.n ≤ 1000000) (hxd : ExP.nd 1000000000 x.d ≤ 1000000) :
    Calls Tryz.prog 169 #[x.val 1000000000] w (WrOut (ExP.writeF x.num) (ExP.writeE x.num) w) := by
  obtain ⟨m, n, d, a, c, b, e⟩ := x
  obtain ⟨hx1, hx2, ⟨hx3, hx4, hx5, hx6⟩⟩ := hx
  dsimp only [FrV.num, FrV.val] at *
  have hz := fun w' => zero_any a (ExP.nd 1000000000 n) c w'
  have hF : ExP.writeF ⟨m, n, d⟩ = if n = 0 then ([48], [49]) else if (300 < (Lib.decDigits (n / Nat.gcd n d)).length ∨ 300 < (Lib.decDigits (d / Nat.gcd n d)).length) then ([], []) else (ExP.signP m (Lib.decDigits (n / Nat.gcd n d)), Lib.decDigits (d / Nat.gcd n d)) := rfl
  have hE : ExP.writeE ⟨m, n, d⟩ = if n = 0 then 0 else if (300 < (Lib.decDigits (n / Nat.gcd n d)).length ∨ 300 < (Lib.decDigits (d / Nat.gcd n d)).length) then 19 else 0 := rfl
  generalize ExP.writeF ⟨m, n, d⟩ = F at *
  generalize ExP.writeE ⟨m, n, d⟩ = E at *
  by_cases hn : n = 0
  · rw [if_pos hn] at hF hE
    rw [show decide ((ExP.nd 1000000000 n : Int) = 0) = true from decide_eq_true (by rw [hn, ExP.nd_zero]; rfl)] at hz
    subst hF hE
    refine enter env_ok Tryz.func169 rfl Tryz.results169 Tryz.ntmps169 [] [] [.agg [.bool m, .any (.slice a (ExP.nd 1000000000 n) c), .any (.slice b (ExP.nd 1000000000 d) e)]] ⟨⟨trivial, rfl, rfl, trivial⟩, trivial⟩ (Nat.le_of_ble_eq_true rfl) w _ 1000 ?_
    repeat' (first | ((with_reducible first | show wpS .. | show putD .. | show putW .. | show splitG .. | show wpQ .. | show wpD .. | show wpX .. | show expX .. | show stepX .. | show keepR .. | show wpY ..); conv => whnf) | ((with_reducible show RetN ..); refine retB fun β => ?_) | ((with_reducible show _ ∧ _); first | (refine ⟨fun h => absurd h (by first | omega | decide), fun _ => ?_⟩) | (refine ⟨fun _ => ?_, fun h => absurd h (by first | omega | decide)⟩) | (refine ⟨fun _ => ?_, fun _ => ?_⟩) | (apply And.intro; · kernel_rfl) | (apply And.intro; · (show inK _ _; unfold inK; omega)) | (apply And.intro; · (show (_ : Int) ≤ 9223372036854775807; (try simp only [lenS]); omega))) | ((with_reducible show AllBe ..); refine allBe fun βe => ?_; conv => whnf) | ((with_reducible show bothX ..); refine bothI ?_ ?_; conv => whnf) | (with_reducible exact trivial) | ((with_reducible show CallN ..); refine call_of env_ok rfl 1000 ?_) | ((with_reducible show XopN ..); refine xop_of env_ok rfl 1000 ?_) | ((with_reducible show CallX ..); first | (refine callX (.lit true) (by kernel_rfl) rfl (trivial) (fun β w hm => hz w) ?_)) | ((with_reducible show OpX ..); first | fail) | ((with_reducible show ∃ _ : SV, _); first | fail) | ((with_reducible show ∃ _, _); first | fail))
    all_goals rfl
  · rw [if_neg hn] at hF hE
    have hnp := Nat.pos_of_ne_zero hn
    rw [show decide ((ExP.nd 1000000000 n : Int) = 0) = false from decide_eq_false (by have := (ExP.nd_pos (b := 1000000000) (by omega)).2 hnp; omega)] at hz
    have hg := Nat.gcd_pos_of_pos_left d hnp
    have hgn := ExP.nd_mono (b := 1000000000) (by omega) (Nat.gcd_le_right n hd)
    have hG := fun (w' : World) (h : Below w.heap.size w w') => common_any (Lz n a (Lz d b [])) a b c e n d w' (Nat.lt_of_lt_of_le hw0 h.size) (by omega) (by omega) hx3 hx5 hx4 hx6 Lz_in (fun h => Lz_mem (Lz_in h)) (hx1.below h) (hx2.below h)
    generalize Nat.gcd n d = g at *
    have hq1 := ExP.nd_mono (b := 1000000000) (by omega) (Nat.div_le_self n g)
    have hq2 := ExP.nd_mono (b := 1000000000) (by omega) (Nat.div_le_self d g)
    have hT := fun (a : Option Addr) (cap x : Nat) (w' : World) (h : Below w.heap.size w w') => text_any a cap x w' (hw.below h)
    have hD1 := fun (a3 : Option Addr) c3 (w' : World) (h : Below w.heap.size w w') h2 => divide_any a a3 c c3 n g w' (Nat.lt_of_lt_of_le hw0 h.size) (by omega) (by omega) hg (hx1.below h) h2
    have hD2 := fun (a3 : Option Addr) c3 (w' : World) (h : Below w.heap.size w w') h2 => divide_any b a3 e c3 d g w' (Nat.lt_of_lt_of_le hw0 h.size) (by omega) (by omega) hg (hx2.below h) h2
    generalize n / g = q1 at *
    generalize d / g = q2 at *
    generalize n % g = r1 at *
    generalize d % g = r2 at *
    have hT1 := fun a cap w' h => hT a cap q1 w' h (by omega)
    have hT2 := fun a cap w' h => hT a cap q2 w' h (by omega)
    generalize Lib.decDigits q1 = s1 at *
    generalize Lib.decDigits q2 = s2 at *
    refine enter env_ok Tryz.func169 rfl Tryz.results169 Tryz.ntmps169 [] [200006] [.agg [.bool m, .any (.slice a (ExP.nd 1000000000 n) c), .any (.slice b (ExP.nd 1000000000 d) e)]] ⟨⟨trivial, rfl, rfl, trivial⟩, trivial⟩ (Nat.le_of_ble_eq_true rfl) w _ 1000 ?_
    repeat' (first | ((with_reducible first | show wpS .. | show putD .. | show putW .. | show splitG .. | show wpQ .. | show wpD .. | show wpX .. | show expX .. | show stepX .. | show keepR .. | show wpY ..); conv => whnf) | ((with_reducible show RetN ..); refine retB fun β => ?_) | ((with_reducible show _ ∧ _); first | (refine ⟨fun h => absurd h (by first | omega | decide), fun _ => ?_⟩) | (refine ⟨fun _ => ?_, fun h => absurd h (by first | omega | decide)⟩) | (refine ⟨fun _ => ?_, fun _ => ?_⟩) | (apply And.intro; · kernel_rfl) | (apply And.intro; · (show inK _ _; unfold inK; omega)) | (apply And.intro; · (show (_ : Int) ≤ 9223372036854775807; (try simp only [lenS]); omega))) | ((with_reducible show AllBe ..); refine allBe fun βe => ?_; conv => whnf) | ((with_reducible show bothX ..); refine bothI ?_ ?_; conv => whnf) | (with_reducible exact trivial) | ((with_reducible show CallN ..); refine call_of env_ok rfl 1000 ?_) | ((with_reducible show XopN ..); refine xop_of env_ok rfl 1000 ?_) | ((with_reducible show CallX ..); first | (refine callX (.lit false) (by kernel_rfl) rfl (trivial) (fun β w hm => hz w) ?_) | (refine callNatL (Lz n a (Lz d b [])) .u32 1000000000 g hw0 (by kernel_rfl) rfl (apart_old (Nat.le_of_ble_eq_true rfl) hx1 rfl (apart_old (Nat.le_of_ble_eq_true rfl) hx2 rfl apart_nil)) (fun β w' hm => hG w' hm.below) (fun a3 c3 h1 h2 h3 => ?_)) | (refine callNat2 .u32 1000000000 q1 r1 hw0 (by kernel_rfl) rfl (fun β w' hm => hD1 a3 c3 w' hm.below (hm.slB 2 rfl)) (fun qa qc ra rc k1 k2 k3 k4 k5 k6 => ?_)) | (refine callNat2 .u32 1000000000 q2 r2 hw0 (by kernel_rfl) rfl (fun β w' hm => hD2 a3 c3 w' hm.below (hm.slB 2 rfl)) (fun qb qd rb rd k7 k8 k9 k10 k11 k12 => ?_)) | (refine callX (.str s1) (by kernel_rfl) rfl (trivial) (fun β w hm => hT1 qa qc w hm.below (hm.slF 3 rfl)) ?_) | (refine callX (.str s2) (by kernel_rfl) rfl (trivial) (fun β w hm => hT2 qb qd w hm.below (hm.slF 5 rfl)) ?_)) | ((with_reducible show OpX ..); first | fail) | ((with_reducible show ∃ _ : SV, _); first | fail) | ((with_reducible show ∃ _, _); first | fail))
    all_goals first | (exfalso; omega) | skip
    all_goals first
      | (rw [if_pos (by omega)] at hF hE; subst hF hE; rfl)
      | (rw [if_neg (by omega)] at hF hE; subst hF hE; simp_all [SV.den, SV.dens, ExP.signP]; done)
end Go.Proofs.YtdkhkfdenlabaaaGreatDoor
namespace Go.Proofs.YtdkhkfdenlabaaaGreatDoor
open Go.RowKit
open Sym
attribute [local irreducible] Calls Sym.AggEq ExP.nd ExP.dig ExP.upd
theorem trimLeft_any (s : List UInt8) (w : World) : Calls Tryz.prog 178 #[.string (bstr s), .string (bstr decS)] w fun e w' => e = .returned (.string (bstr (ExP.runR s))) ∧ Below w.heap.size w w' := by
  have hp : (fun c => decS.contains c) = ExP.digC := funext dec_contains
  have := Any.strings_TrimLeft_laid Tryz.lays161 (by kernel_rfl) (bstr s) (bstr decS) w (by decide) (ascii_of_all (by decide))
  refine this.mono ?_
  rintro e w' ⟨rfl, hb⟩
  refine ⟨?_, hb⟩
  have e1 : Lib.trimLeftS s decS = ExP.runR s := by unfold Lib.trimLeftS ExP.runR; rw [hp]
  show Ending.returned (Value.string (bstr (Lib.trimLeftS s decS))) = _
  rw [e1]
set_option maxRecDepth 100000 in
theorem run_any (s : List UInt8) (w : World) (hs : s.length ≤ 9223372036854775807) : Calls Tryz.prog 164 #[.string (bstr s)] w fun e w' => e = .returned (.tuple #[.string (bstr (ExP.runD s)), .string (bstr (ExP.runR s))]) ∧ Below w.heap.size w w' := by
  have HT := fun w => trimLeft_any s w
  have h1 := ExP.run_len s
  have h2 := ExP.run_take s
  generalize ExP.runR s = r at *
  refine enter env_ok Tryz.func164 rfl Tryz.results164 Tryz.ntmps164 [] [] [.str s] (by simp [SV.oks, SV.ok]) (Nat.le_of_ble_eq_true rfl) w _ 1000 ?_
  repeat' (first | ((with_reducible first | show wpS .. | show putD .. | show putW .. | show splitG .. | show wpQ .. | show wpD .. | show wpX .. | show expX .. | show stepX .. | show keepR .. | show wpY ..); conv => whnf) | ((with_reducible show RetN ..); refine retB fun β => ?_) | ((with_reducible show _ ∧ _); first | (refine ⟨fun h => absurd h (by first | omega | decide), fun _ => ?_⟩) | (refine ⟨fun _ => ?_, fun h => absurd h (by first | omega | decide)⟩) | (refine ⟨fun _ => ?_, fun _ => ?_⟩) | (apply And.intro; · kernel_rfl) | (apply And.intro; · (show inK _ _; unfold inK; omega)) | (apply And.intro; · (show (_ : Int) ≤ 9223372036854775807; (try simp only [lenS]); omega))) | ((with_reducible show AllBe ..); refine allBe fun βe => ?_; conv => whnf) | ((with_reducible show bothX ..); refine bothI ?_ ?_; conv => whnf) | (with_reducible exact trivial) | ((with_reducible show CallN ..); refine call_of env_ok rfl 1000 ?_) | ((with_reducible show XopN ..); refine xop_of env_ok rfl 1000 ?_) | ((with_reducible show CallX ..); first | (refine callX (.str r) (by kernel_rfl) rfl (trivial) (fun β w hm => HT w) ?_)) | ((with_reducible show OpX ..); first | fail) | ((with_reducible show ∃ _ : SV, _); first | fail) | ((with_reducible show ∃ _, _); first | (refine ⟨s.length - r.length, by omega, by omega, ?_⟩)))
  all_goals first | (rw [h2]; rfl) | (simp [SV.den, SV.dens, h2]; done) | skip
theorem hasOne_any (s : List UInt8) (c : UInt8) (w : World) : Calls Tryz.prog 162 #[.string (bstr s), .string (bstr [c])] w fun e w' => e = .returned (.bool (s.head? == some c)) ∧ Below w.heap.size w w' := by
  refine (Tryz.strings_HasPrefix (bstr s) (bstr [c]) w).mono ?_
  rintro e w' ⟨h, rfl⟩
  refine ⟨?_, Below.refl _ _⟩
  rw [h, show (bstr s).data.toList = s from rfl, show (bstr [c]).data.toList = [c] from rfl]
  congr 2
  unfold Lib.hasPrefix
  cases s with
  | nil => rfl
  | cons d r =>
    by_cases h : d = c
    · subst h; simp
    · have h' : ¬ c = d := fun e => h e.symm
      simp [List.isPrefixOf, beq_eq_false_iff_ne.2 h, beq_eq_false_iff_ne.2 h']
theorem repeat48 (k : Nat) : Lib.repeatL [48] k = List.replicate k 48 := by
  induction k with
  | zero => rfl
  | succ k ih => rw [Lib.repeatL, ih]; rfl
theorem repeat_any (k : Nat) (w : World) (hk : k ≤ 1000000) : Calls Tryz.prog 202 #[.string (bstr [48]), .int .i64 (k : Int)] w fun e w' => e = .returned (.string (bstr (List.replicate k 48))) ∧ Below w.heap.size w w' := by
  rcases Nat.lt_or_ge k 2 with h | h
  · have : k = 0 ∨ k = 1 := by omega
    rcases this with rfl | rfl
    · exact (Tryz.strings_Repeat_zero (bstr [48]) w).mono fun e w' ⟨h1, h2⟩ => ⟨h1, by rw [h2]; exact Below.refl _ _⟩
    · exact (Tryz.strings_Repeat_one (bstr [48]) w).mono fun e w' ⟨h1, h2⟩ => ⟨h1, by rw [h2]; exact Below.refl _ _⟩
  · refine (Tryz.strings_Repeat_main (bstr [48]) k w h (by omega) (by rw [bstr_size]; simp; omega) (by rw [bstr_size]; simp)).mono ?_
    rintro e w' ⟨rfl, hb⟩
    refine ⟨?_, hb⟩
    show Ending.returned (Value.string (bstr (Lib.repeatL [48] k))) = _
    rw [repeat48]
set_option maxRecDepth 100000 in
theorem ten_any (k : Nat) (w : World) (hw0 : 0 < w.heap.size) (hk : k ≤ 500000) : Calls Tryz.prog 167 #[.int .i64 (k : Int)] w (NatOut .u32 1000000000 (10 ^ k) w) := by
  have HR := fun w => repeat_any k w (by omega)
  obtain ⟨hv, ha⟩ := ExP.ten_val k
  have HP := fun w => parse_any (49 :: List.replicate k 48) w (by simp; omega) ha
  rw [hv] at HP
  have hl : (List.replicate k (48 : UInt8)).length = k := by simp
  clear hv ha
  generalize List.replicate k (48 : UInt8) = z at *
  refine enter env_ok Tryz.func167 rfl Tryz.results167 Tryz.ntmps167 [] [] [.int .i64 (k : Int)] (by simp [SV.oks, SV.ok]) (Nat.le_of_ble_eq_true rfl) w _ 1000 ?_
  repeat' (first | ((with_reducible first | show wpS .. | show putD .. | show putW .. | show splitG .. | show wpQ .. | show wpD .. | show wpX .. | show expX .. | show stepX .. | show keepR .. | show wpY ..); conv => whnf) | ((with_reducible show RetN ..); refine retB fun β => ?_) | ((with_reducible show _ ∧ _); first | (refine ⟨fun h => absurd h (by first | omega | decide), fun _ => ?_⟩) | (refine ⟨fun _ => ?_, fun h => absurd h (by first | omega | decide)⟩) | (refine ⟨fun _ => ?_, fun _ => ?_⟩) | (apply And.intro; · kernel_rfl) | (apply And.intro; · (show inK _ _; unfold inK; omega)) | (apply And.intro; · (show (_ : Int) ≤ 9223372036854775807; (try simp only [lenS]); omega))) | ((with_reducible show AllBe ..); refine allBe fun βe => ?_; conv => whnf) | ((with_reducible show bothX ..); refine bothI ?_ ?_; conv => whnf) | (with_reducible exact trivial) | ((with_reducible show CallN ..); refine call_of env_ok rfl 1000 ?_) | ((with_reducible show XopN ..); refine xop_of env_ok rfl 1000 ?_) | ((with_reducible show CallX ..); first | (refine callX (.str z) (by kernel_rfl) rfl (trivial) (fun β w hm => HR w) ?_) | (refine callNat .u32 1000000000 (10 ^ k) hw0 (by kernel_rfl) rfl (fun β w' hm => HP w') (fun a1 c1 q1 q2 q3 => ?_))) | ((with_reducible show OpX ..); first | fail) | ((with_reducible show ∃ _ : SV, _); first | fail) | ((with_reducible show ∃ _, _); first | fail))
  all_goals first | (exfalso; omega) | skip
  all_goals refine ret fun β w' hm => ?_
  all_goals exact ⟨a1, c1, rfl, hm.slF 0 rfl, hm.freshF 0 rfl rfl, q1, q2, hm.below⟩
set_option maxRecDepth 100000 in
set_option maxHeartbeats 4000000 in
theorem exponent_any (s : List UInt8) (w : World) (hs : s.length ≤ 9223372036854775807) : Calls Tryz.prog 165 #[.string (bstr s)] w fun e w' => e = .returned (.tuple #[.int .i64 (if ExP.expB s = true then ExP.expV s else 0), .bool (ExP.expB s)]) ∧ Below w.heap.size w w' := by
  cases s with
  | nil =>
    refine enter env_ok Tryz.func165 rfl Tryz.results165 Tryz.ntmps165 [] [] [.str []] (by simp [SV.oks, SV.ok]) (Nat.le_of_ble_eq_true rfl) w _ 1000 ?_
    repeat' (first | ((with_reducible first | show wpS .. | show putD .. | show putW .. | show splitG .. | show wpQ .. | show wpD .. | show wpX .. | show expX .. | show stepX .. | show keepR .. | show wpY ..); conv => whnf) | ((with_reducible show RetN ..); refine retB fun β => ?_) | ((with_reducible show _ ∧ _); first | (refine ⟨fun h => absurd h (by first | omega | decide), fun _ => ?_⟩) | (refine ⟨fun _ => ?_, fun h => absurd h (by first | omega | decide)⟩) | (refine ⟨fun _ => ?_, fun _ => ?_⟩) | (apply And.intro; · kernel_rfl) | (apply And.intro; · (show inK _ _; unfold inK; omega)) | (apply And.intro; · (show (_ : Int) ≤ 9223372036854775807; (try simp only [lenS]); omega))) | ((with_reducible show AllBe ..); refine allBe fun βe => ?_; conv => whnf) | ((with_reducible show bothX ..); refine bothI ?_ ?_; conv => whnf) | (with_reducible exact trivial) | ((with_reducible show CallN ..); refine call_of env_ok rfl 1000 ?_) | ((with_reducible show XopN ..); refine xop_of env_ok rfl 1000 ?_) | ((with_reducible show CallX ..); first | fail) | ((with_reducible show OpX ..); first | fail) | ((with_reducible show ∃ _ : SV, _); first | fail) | ((with_reducible show ∃ _, _); first | fail))
    all_goals first | rfl | (exfalso; simp_all; done)
  | cons c t =>
    have hB : ExP.expB (c :: t) = ((c == 101 || c == 69) && ExP.expOK (ExP.sgnR t)) := rfl
    have hV : ExP.expV (c :: t) = if ExP.sgnP t = true then -(ExP.valS (ExP.sgnR t) : Int) else (ExP.valS (ExP.sgnR t) : Int) := rfl
    have hc0 : ((c :: t : List UInt8).getD 0 0).toNat = c.toNat := rfl
    have hc8 := c.toNat_lt
    by_cases hc : c = 101 ∨ c = 69
    · have hce : (c == 101 || c == 69) = true := by rcases hc with rfl | rfl <;> rfl
      have hcn : c.toNat = 101 ∨ c.toNat = 69 := by rcases hc with rfl | rfl <;> simp
      rw [hce, Bool.true_and] at hB
      rw [hB, hV]
      have hsP : ExP.sgnP t = (t.head? == some 45) := rfl
      have hsR : ExP.sgnR t = if t.head? = some 45 ∨ t.head? = some 43 then t.tail else t := rfl
      by_cases h45 : t.head? = some 45
      · obtain ⟨u, rfl⟩ : ∃ u, t = 45 :: u := by
          cases t with
          | nil => cases h45
          | cons d u => simp at h45; subst h45; exact ⟨u, rfl⟩
        have e1 : ExP.sgnP (45 :: u) = true := rfl
        have e2 : ExP.sgnR (45 :: u) = u := rfl
        simp only [e1, e2, if_true]
        have HH1 := fun w => hasOne_any (45 :: u) 45 w
        have HH2 := fun w => hasOne_any (45 :: u) 43 w
        rw [show (((45 : UInt8) :: u).head? == some 45) = true from rfl] at HH1
        have RU := fun w => run_any u w (by simp only [List.length_cons] at hs; omega)
        by_cases hok : ExP.expOK u = true
        · obtain ⟨o1, o2, o3, o4, o5⟩ := ExP.expOK_run hok
          have hv := ExP.val3 hok
          have AT := fun w => atoi_any u w o1 (by omega) o5
          rw [o2, o3] at RU
          rw [hok, if_pos rfl]
          generalize ExP.valS u = v at *
          refine enter env_ok Tryz.func165 rfl Tryz.results165 Tryz.ntmps165 [] [] [.str (c :: 45 :: u)] (by simp [SV.oks, SV.ok]) (Nat.le_of_ble_eq_true rfl) w _ 1000 ?_
          repeat' (first | ((with_reducible first | show wpS .. | show putD .. | show putW .. | show splitG .. | show wpQ .. | show wpD .. | show wpX .. | show expX .. | show stepX .. | show keepR .. | show wpY ..); conv => whnf) | ((with_reducible show RetN ..); refine retB fun β => ?_) | ((with_reducible show _ ∧ _); first | (refine ⟨fun h => absurd h (by first | omega | decide), fun _ => ?_⟩) | (refine ⟨fun _ => ?_, fun h => absurd h (by first | omega | decide)⟩) | (refine ⟨fun _ => ?_, fun _ => ?_⟩) | (apply And.intro; · kernel_rfl) | (apply And.intro; · (show inK _ _; unfold inK; omega)) | (apply And.intro; · (show (_ : Int) ≤ 9223372036854775807; (try simp only [lenS]); omega))) | ((with_reducible show AllBe ..); refine allBe fun βe => ?_; conv => whnf) | ((with_reducible show bothX ..); refine bothI ?_ ?_; conv => whnf) | (with_reducible exact trivial) | ((with_reducible show CallN ..); refine call_of env_ok rfl 1000 ?_) | ((with_reducible show XopN ..); refine xop_of env_ok rfl 1000 ?_) | ((with_reducible show CallX ..); first | (refine callX (.lit true) (by kernel_rfl) rfl (trivial) (fun β w hm => HH1 w) ?_) | (refine callX (.lit false) (by kernel_rfl) rfl (trivial) (fun β w hm => HH2 w) ?_) | (refine callX (.tup [.str u, .str []]) (by kernel_rfl) rfl (⟨trivial, trivial, trivial⟩) (fun β w hm => RU w) ?_) | (refine callX (.tup [.int .i64 (v : Nat), .any .nilIface]) (by kernel_rfl) rfl (⟨trivial, rfl, trivial⟩) (fun β w hm => AT w) ?_)) | ((with_reducible show OpX ..); first | fail) | ((with_reducible show ∃ _ : SV, _); first | fail) | ((with_reducible show ∃ _, _); first | (refine ⟨0, rfl, by simp, ?_⟩) | (refine ⟨1, rfl, by simp, ?_⟩)))
          all_goals first | rfl | (exfalso; omega) | (exfalso; simp_all; done) | (simp [SV.den, SV.dens]; done)
        · have hno := ExP.expOK_not (Bool.eq_false_iff.2 hok)
          rw [Bool.eq_false_iff.2 hok, if_neg (by decide)]
          generalize ExP.runD u = d at *
          generalize ExP.runR u = r at *
          refine enter env_ok Tryz.func165 rfl Tryz.results165 Tryz.ntmps165 [] [] [.str (c :: 45 :: u)] (by simp [SV.oks, SV.ok]) (Nat.le_of_ble_eq_true rfl) w _ 1000 ?_
          repeat' (first | ((with_reducible first | show wpS .. | show putD .. | show putW .. | show splitG .. | show wpQ .. | show wpD .. | show wpX .. | show expX .. | show stepX .. | show keepR .. | show wpY ..); conv => whnf) | ((with_reducible show RetN ..); refine retB fun β => ?_) | ((with_reducible show _ ∧ _); first | (refine ⟨fun h => absurd h (by first | omega | decide), fun _ => ?_⟩) | (refine ⟨fun _ => ?_, fun h => absurd h (by first | omega | decide)⟩) | (refine ⟨fun _ => ?_, fun _ => ?_⟩) | (apply And.intro; · kernel_rfl) | (apply And.intro; · (show inK _ _; unfold inK; omega)) | (apply And.intro; · (show (_ : Int) ≤ 9223372036854775807; (try simp only [lenS]); omega))) | ((with_reducible show AllBe ..); refine allBe fun βe => ?_; conv => whnf) | ((with_reducible show bothX ..); refine bothI ?_ ?_; conv => whnf) | (with_reducible exact trivial) | ((with_reducible show CallN ..); refine call_of env_ok rfl 1000 ?_) | ((with_reducible show XopN ..); refine xop_of env_ok rfl 1000 ?_) | ((with_reducible show CallX ..); first | (refine callX (.lit true) (by kernel_rfl) rfl (trivial) (fun β w hm => HH1 w) ?_) | (refine callX (.lit false) (by kernel_rfl) rfl (trivial) (fun β w hm => HH2 w) ?_) | (refine callX (.tup [.str d, .str r]) (by kernel_rfl) rfl (⟨trivial, trivial, trivial⟩) (fun β w hm => RU w) ?_)) | ((with_reducible show OpX ..); first | fail) | ((with_reducible show ∃ _ : SV, _); first | fail) | ((with_reducible show ∃ _, _); first | (refine ⟨0, rfl, by simp, ?_⟩) | (refine ⟨1, rfl, by simp, ?_⟩)))
          all_goals first | rfl | (exfalso; omega) | (exfalso; rcases hno with h | h | h <;> first | omega | contradiction | (exact h (by assumption))) | (exfalso; simp_all; done)
      by_cases h43 : t.head? = some 43
      · obtain ⟨u, rfl⟩ : ∃ u, t = 43 :: u := by
          cases t with
          | nil => cases h43
          | cons d u => simp at h43; subst h43; exact ⟨u, rfl⟩
        have e1 : ExP.sgnP (43 :: u) = false := rfl
        have e2 : ExP.sgnR (43 :: u) = u := rfl
        simp only [e1, e2, Bool.false_eq_true, if_false]
        have HH1 := fun w => hasOne_any (43 :: u) 45 w
        have HH2 := fun w => hasOne_any (43 :: u) 43 w
        rw [show (((43 : UInt8) :: u).head? == some 45) = false from rfl] at HH1
        rw [show (((43 : UInt8) :: u).head? == some 43) = true from rfl] at HH2
        have RU := fun w => run_any u w (by simp only [List.length_cons] at hs; omega)
        by_cases hok : ExP.expOK u = true
        · obtain ⟨o1, o2, o3, o4, o5⟩ := ExP.expOK_run hok
          have hv := ExP.val3 hok
          have AT := fun w => atoi_any u w o1 (by omega) o5
          rw [o2, o3] at RU
          rw [hok, if_pos rfl]
          generalize ExP.valS u = v at *
          refine enter env_ok Tryz.func165 rfl Tryz.results165 Tryz.ntmps165 [] [] [.str (c :: 43 :: u)] (by simp [SV.oks, SV.ok]) (Nat.le_of_ble_eq_true rfl) w _ 1000 ?_
          repeat' (first | ((with_reducible first | show wpS .. | show putD .. | show putW .. | show splitG .. | show wpQ .. | show wpD .. | show wpX .. | show expX .. | show stepX .. | show keepR .. | show wpY ..); conv => whnf) | ((with_reducible show RetN ..); refine retB fun β => ?_) | ((with_reducible show _ ∧ _); first | (refine ⟨fun h => absurd h (by first | omega | decide), fun _ => ?_⟩) | (refine ⟨fun _ => ?_, fun h => absurd h (by first | omega | decide)⟩) | (refine ⟨fun _ => ?_, fun _ => ?_⟩) | (apply And.intro; · kernel_rfl) | (apply And.intro; · (show inK _ _; unfold inK; omega)) | (apply And.intro; · (show (_ : Int) ≤ 9223372036854775807; (try simp only [lenS]); omega))) | ((with_reducible show AllBe ..); refine allBe fun βe => ?_; conv => whnf) | ((with_reducible show bothX ..); refine bothI ?_ ?_; conv => whnf) | (with_reducible exact trivial) | ((with_reducible show CallN ..); refine call_of env_ok rfl 1000 ?_) | ((with_reducible show XopN ..); refine xop_of env_ok rfl 1000 ?_) | ((with_reducible show CallX ..); first | (refine callX (.lit false) (by kernel_rfl) rfl (trivial) (fun β w hm => HH1 w) ?_) | (refine callX (.lit true) (by kernel_rfl) rfl (trivial) (fun β w hm => HH2 w) ?_) | (refine callX (.tup [.str u, .str []]) (by kernel_rfl) rfl (⟨trivial, trivial, trivial⟩) (fun β w hm => RU w) ?_) | (refine callX (.tup [.int .i64 (v : Nat), .any .nilIface]) (by kernel_rfl) rfl (⟨trivial, rfl, trivial⟩) (fun β w hm => AT w) ?_)) | ((with_reducible show OpX ..); first | fail) | ((with_reducible show ∃ _ : SV, _); first | fail) | ((with_reducible show ∃ _, _); first | (refine ⟨0, rfl, by simp, ?_⟩) | (refine ⟨1, rfl, by simp, ?_⟩)))
          all_goals first | rfl | (exfalso; omega) | (exfalso; simp_all; done) | (simp [SV.den, SV.dens]; done)
        · have hno := ExP.expOK_not (Bool.eq_false_iff.2 hok)
          rw [Bool.eq_false_iff.2 hok, if_neg (by decide)]
          generalize ExP.runD u = d at *
          generalize ExP.runR u = r at *
          refine enter env_ok Tryz.func165 rfl Tryz.results165 Tryz.ntmps165 [] [] [.str (c :: 43 :: u)] (by simp [SV.oks, SV.ok]) (Nat.le_of_ble_eq_true rfl) w _ 1000 ?_
          repeat' (first | ((with_reducible first | show wpS .. | show putD .. | show putW .. | show splitG .. | show wpQ .. | show wpD .. | show wpX .. | show expX .. | show stepX .. | show keepR .. | show wpY ..); conv => whnf) | ((with_reducible show RetN ..); refine retB fun β => ?_) | ((with_reducible show _ ∧ _); first | (refine ⟨fun h => absurd h (by first | omega | decide), fun _ => ?_⟩) | (refine ⟨fun _ => ?_, fun h => absurd h (by first | omega | decide)⟩) | (refine ⟨fun _ => ?_, fun _ => ?_⟩) | (apply And.intro; · kernel_rfl) | (apply And.intro; · (show inK _ _; unfold inK; omega)) | (apply And.intro; · (show (_ : Int) ≤ 9223372036854775807; (try simp only [lenS]); omega))) | ((with_reducible show AllBe ..); refine allBe fun βe => ?_; conv => whnf) | ((with_reducible show bothX ..); refine bothI ?_ ?_; conv => whnf) | (with_reducible exact trivial) | ((with_reducible show CallN ..); refine call_of env_ok rfl 1000 ?_) | ((with_reducible show XopN ..); refine xop_of env_ok rfl 1000 ?_) | ((with_reducible show CallX ..); first | (refine callX (.lit false) (by kernel_rfl) rfl (trivial) (fun β w hm => HH1 w) ?_) | (refine callX (.lit true) (by kernel_rfl) rfl (trivial) (fun β w hm => HH2 w) ?_) | (refine callX (.tup [.str d, .str r]) (by kernel_rfl) rfl (⟨trivial, trivial, trivial⟩) (fun β w hm => RU w) ?_)) | ((with_reducible show OpX ..); first | fail) | ((with_reducible show ∃ _ : SV, _); first | fail) | ((with_reducible show ∃ _, _); first | (refine ⟨0, rfl, by simp, ?_⟩) | (refine ⟨1, rfl, by simp, ?_⟩)))
          all_goals first | rfl | (exfalso; omega) | (exfalso; rcases hno with h | h | h <;> first | omega | contradiction | (exact h (by assumption))) | (exfalso; simp_all; done)
      · have e1 : ExP.sgnP t = false := by rw [hsP]; exact beq_eq_false_iff_ne.2 h45
        have e2 : ExP.sgnR t = t := by rw [hsR, if_neg (by simp [h45, h43])]
        simp only [e1, e2, Bool.false_eq_true, if_false]
        have HH1 := fun w => hasOne_any (t) 45 w
        have HH2 := fun w => hasOne_any (t) 43 w
        rw [beq_eq_false_iff_ne.2 h45] at HH1
        rw [beq_eq_false_iff_ne.2 h43] at HH2
        have RU := fun w => run_any t w (by simp only [List.length_cons] at hs; omega)
        by_cases hok : ExP.expOK t = true
        · obtain ⟨o1, o2, o3, o4, o5⟩ := ExP.expOK_run hok
          have hv := ExP.val3 hok
          have AT := fun w => atoi_any t w o1 (by omega) o5
          rw [o2, o3] at RU
          rw [hok, if_pos rfl]
          generalize ExP.valS t = v at *
          refine enter env_ok Tryz.func165 rfl Tryz.results165 Tryz.ntmps165 [] [] [.str (c :: t)] (by simp [SV.oks, SV.ok]) (Nat.le_of_ble_eq_true rfl) w _ 1000 ?_
          repeat' (first | ((with_reducible first | show wpS .. | show putD .. | show putW .. | show splitG .. | show wpQ .. | show wpD .. | show wpX .. | show expX .. | show stepX .. | show keepR .. | show wpY ..); conv => whnf) | ((with_reducible show RetN ..); refine retB fun β => ?_) | ((with_reducible show _ ∧ _); first | (refine ⟨fun h => absurd h (by first | omega | decide), fun _ => ?_⟩) | (refine ⟨fun _ => ?_, fun h => absurd h (by first | omega | decide)⟩) | (refine ⟨fun _ => ?_, fun _ => ?_⟩) | (apply And.intro; · kernel_rfl) | (apply And.intro; · (show inK _ _; unfold inK; omega)) | (apply And.intro; · (show (_ : Int) ≤ 9223372036854775807; (try simp only [lenS]); omega))) | ((with_reducible show AllBe ..); refine allBe fun βe => ?_; conv => whnf) | ((with_reducible show bothX ..); refine bothI ?_ ?_; conv => whnf) | (with_reducible exact trivial) | ((with_reducible show CallN ..); refine call_of env_ok rfl 1000 ?_) | ((with_reducible show XopN ..); refine xop_of env_ok rfl 1000 ?_) | ((with_reducible show CallX ..); first | (refine callX (.lit false) (by kernel_rfl) rfl (trivial) (fun β w hm => HH1 w) ?_) | (refine callX (.lit false) (by kernel_rfl) rfl (trivial) (fun β w hm => HH2 w) ?_) | (refine callX (.tup [.str t, .str []]) (by kernel_rfl) rfl (⟨trivial, trivial, trivial⟩) (fun β w hm => RU w) ?_) | (refine callX (.tup [.int .i64 (v : Nat), .any .nilIface]) (by kernel_rfl) rfl (⟨trivial, rfl, trivial⟩) (fun β w hm => AT w) ?_)) | ((with_reducible show OpX ..); first | fail) | ((with_reducible show ∃ _ : SV, _); first | fail) | ((with_reducible show ∃ _, _); first | (refine ⟨0, rfl, by simp, ?_⟩) | (refine ⟨1, rfl, by simp, ?_⟩)))
          all_goals first | rfl | (exfalso; omega) | (exfalso; simp_all; done) | (simp [SV.den, SV.dens]; done)
        · have hno := ExP.expOK_not (Bool.eq_false_iff.2 hok)
          rw [Bool.eq_false_iff.2 hok, if_neg (by decide)]
          generalize ExP.runD t = d at *
          generalize ExP.runR t = r at *
          refine enter env_ok Tryz.func165 rfl Tryz.results165 Tryz.ntmps165 [] [] [.str (c :: t)] (by simp [SV.oks, SV.ok]) (Nat.le_of_ble_eq_true rfl) w _ 1000 ?_
          repeat' (first | ((with_reducible first | show wpS .. | show putD .. | show putW .. | show splitG .. | show wpQ .. | show wpD .. | show wpX .. | show expX .. | show stepX .. | show keepR .. | show wpY ..); conv => whnf) | ((with_reducible show RetN ..); refine retB fun β => ?_) | ((with_reducible show _ ∧ _); first | (refine ⟨fun h => absurd h (by first | omega | decide), fun _ => ?_⟩) | (refine ⟨fun _ => ?_, fun h => absurd h (by first | omega | decide)⟩) | (refine ⟨fun _ => ?_, fun _ => ?_⟩) | (apply And.intro; · kernel_rfl) | (apply And.intro; · (show inK _ _; unfold inK; omega)) | (apply And.intro; · (show (_ : Int) ≤ 9223372036854775807; (try simp only [lenS]); omega))) | ((with_reducible show AllBe ..); refine allBe fun βe => ?_; conv => whnf) | ((with_reducible show bothX ..); refine bothI ?_ ?_; conv => whnf) | (with_reducible exact trivial) | ((with_reducible show CallN ..); refine call_of env_ok rfl 1000 ?_) | ((with_reducible show XopN ..); refine xop_of env_ok rfl 1000 ?_) | ((with_reducible show CallX ..); first | (refine callX (.lit false) (by kernel_rfl) rfl (trivial) (fun β w hm => HH1 w) ?_) | (refine callX (.lit false) (by kernel_rfl) rfl (trivial) (fun β w hm => HH2 w) ?_) | (refine callX (.tup [.str d, .str r]) (by kernel_rfl) rfl (⟨trivial, trivial, trivial⟩) (fun β w hm => RU w) ?_)) | ((with_reducible show OpX ..); first | fail) | ((with_reducible show ∃ _ : SV, _); first | fail) | ((with_reducible show ∃ _, _); first | (refine ⟨0, rfl, by simp, ?_⟩) | (refine ⟨1, rfl, by simp, ?_⟩)))
          all_goals first | rfl | (exfalso; omega) | (exfalso; rcases hno with h | h | h <;> first | omega | contradiction | (exact h (by assumption))) | (exfalso; simp_all; done)
    · have hce : (c == 101 || c == 69) = false := by
        simp only [not_or] at hc
        simp [hc.1, hc.2]
      have hcn : c.toNat ≠ 101 ∧ c.toNat ≠ 69 := ⟨fun e => hc (.inl (UInt8.toNat_inj.1 e)), fun e => hc (.inr (UInt8.toNat_inj.1 e))⟩
      rw [hce, Bool.false_and] at hB
      rw [hB]
      refine enter env_ok Tryz.func165 rfl Tryz.results165 Tryz.ntmps165 [] [] [.str (c :: t)] (by simp [SV.oks, SV.ok]) (Nat.le_of_ble_eq_true rfl) w _ 1000 ?_
      repeat' (first | ((with_reducible first | show wpS .. | show putD .. | show putW .. | show splitG .. | show wpQ .. | show wpD .. | show wpX .. | show expX .. | show stepX .. | show keepR .. | show wpY ..); conv => whnf) | ((with_reducible show RetN ..); refine retB fun β => ?_) | ((with_reducible show _ ∧ _); first | (refine ⟨fun h => absurd h (by first | omega | decide), fun _ => ?_⟩) | (refine ⟨fun _ => ?_, fun h => absurd h (by first | omega | decide)⟩) | (refine ⟨fun _ => ?_, fun _ => ?_⟩) | (apply And.intro; · kernel_rfl) | (apply And.intro; · (show inK _ _; unfold inK; omega)) | (apply And.intro; · (show (_ : Int) ≤ 9223372036854775807; (try simp only [lenS]); omega))) | ((with_reducible show AllBe ..); refine allBe fun βe => ?_; conv => whnf) | ((with_reducible show bothX ..); refine bothI ?_ ?_; conv => whnf) | (with_reducible exact trivial) | ((with_reducible show CallN ..); refine call_of env_ok rfl 1000 ?_) | ((with_reducible show XopN ..); refine xop_of env_ok rfl 1000 ?_) | ((with_reducible show CallX ..); first | fail) | ((with_reducible show OpX ..); first | fail) | ((with_reducible show ∃ _ : SV, _); first | fail) | ((with_reducible show ∃ _, _); first | (refine ⟨0, rfl, by simp, ?_⟩)))
      all_goals first | rfl | (exfalso; omega) | (exfalso; simp_all; done)
end Go.Proofs.YtdkhkfdenlabaaaGreatDoor
