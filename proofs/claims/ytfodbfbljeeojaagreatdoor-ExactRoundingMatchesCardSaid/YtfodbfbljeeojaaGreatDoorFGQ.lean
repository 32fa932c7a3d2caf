/- Fractions of the reference: FracError, RatOf, Frac. Fractions of the reference: RatOf, Frac. Equality of structs, field by field. -/
import Derived.Test.YtfodbfbljeeojaaGreatDoorFGP
import Derived.Test.YtfodbfbljeeojaaGreatDoorFExR5
import Derived.Test.YtfodbfbljeeojaaGreatDoorFGA
import Derived.ChangeKeysEq
set_option linter.unusedSimpArgs false
set_option linter.unusedVariables false
namespace Go.Proofs.YtfodbfbljeeojaaGreatDoor
open Go.RowKit
open Sym
attribute [local irreducible] Calls Sym.AggEq ExP.nd ExP.dig ExP.upd
theorem ExP.dec_one {g : Nat} : Lib.decDigits g = [49] ↔ g = 1 := by
  constructor
  · intro h
    have := ExP.val_dec g
    rw [h] at this
    exact this.symm
  · rintro rfl
    rw [Lib.decDigits_one (by omega)]; rfl
/-- the two forms of a numerator that is not empty -/
theorem ExP.cutM_cases (f : List UInt8) (h : f ≠ []) : (∃ r, f = 45 :: r ∧ ExP.cutM f = (r, true)) ∨ (∃ c r, f = c :: r ∧ c.toNat ≠ 45 ∧ ExP.cutM f = (c :: r, false)) := by
  cases f with
  | nil => exact absurd rfl h
  | cons c r =>
    by_cases hc : c = 45
    · subst hc; exact .inl ⟨r, rfl, by simp [ExP.cutM]⟩
    · exact .inr ⟨c, r, rfl, fun e => hc (UInt8.toNat_inj.1 e), by simp [ExP.cutM, hc]⟩
set_option maxRecDepth 100000 in
set_option maxHeartbeats 4000000 in
theorem fracError_any (f : ExP.Fr) (w : World) (hw0 : 0 < w.heap.size) (h1 : f.1.length ≤ 9223372036854775807) (h2 : f.2.length ≤ 9223372036854775807) :
    Calls Tryz.prog 15 #[frV f] w fun e w' => e = .returned (.int .i64 (ExP.readE f)) ∧ Below w.heap.size w w' := by
  obtain ⟨f1, f2⟩ := f
  dsimp only at *
  have hE : ExP.readE (f1, f2) = if ExP.digitsP (ExP.cutM f1).1 = false ∨ ExP.digitsP f2 = false ∨ f2 = [48] ∨ ((ExP.cutM f1).1 = [48] ∧ (ExP.cutM f1).2 = true) then 4
    else if 300 < (ExP.cutM f1).1.length ∨ 300 < f2.length then 3
    else if Nat.gcd (ExP.valS (ExP.cutM f1).1) (ExP.valS f2) ≠ 1 then 4 else 0 := rfl
  generalize ExP.readE (f1, f2) = E at *
  by_cases h0 : f1 = []
  · subst h0
    rw [if_pos (.inl rfl)] at hE
    subst hE
    have hD := fun w => rdigits_any [] w (by simp)
    rw [show ExP.digitsP [] = false from rfl] at hD
    refine enter env_ok Tryz.func15 rfl Tryz.results15 Tryz.ntmps15 [] [200008] [.agg [.str [], .str f2]] (by simp [SV.oks, SV.ok]) (Nat.le_of_ble_eq_true rfl) w _ 1000 ?_
    repeat' (first | ((with_reducible first | show wpS _ _ _ _ | show putD _ _ _ _ | show putW _ _ _ _ | show splitG _ _ _ | show wpQ _ _ _ _ _ _ | show wpD _ _ _ _ _ _ _ | show wpX _ _ _ _ _ _ _ | show expX _ _ _ _ _ _ | show stepX _ _ _ _ | show keepR _ _ _ | show wpY _ _ _ _); conv => whnf) | ((with_reducible show RetN _ _ _); refine retB fun β => ?_) | ((with_reducible show _ ∧ _); first | (apply And.intro; (· intro h; exfalso; first | omega | (revert h; decide)); intro _) | (apply And.intro; rotate_left; (· intro h; exfalso; first | omega | (revert h; decide)); intro _) | (refine ⟨fun _ => ?_, fun _ => ?_⟩) | (apply And.intro; · kernel_rfl) | (apply And.intro; · (show inK _ _; unfold inK; omega)) | (apply And.intro; · (show (_ : Int) ≤ 9223372036854775807; (try simp only [List.length_append, List.length_drop, List.length_take, List.length_cons, List.length_nil]); omega))) | ((with_reducible show AllBe _); refine allBe fun βe => ?_; conv => whnf) | ((with_reducible show bothX _ _); refine bothI ?_ ?_; conv => whnf) | (with_reducible exact trivial) | ((with_reducible show CallN _ _ _ _ _ _ _ _); refine call_of env_ok rfl 1000 ?_) | ((with_reducible show XopN _ _ _ _ _ _); refine xop_of env_ok rfl 1000 ?_) | ((with_reducible show CallX _ _ _ _ _ _); first | (refine callX (.lit false) (by kernel_rfl) rfl (trivial) (fun β w hm => hD w) ?_)) | ((with_reducible show OpX _ _ _ _); first | fail) | ((with_reducible show ∃ _ : SV, _); first | fail) | ((with_reducible show ∃ _, _); first | fail))
    all_goals rfl
  have hL := cutM_len f1
  have hD1 := fun w => rdigits_any (ExP.cutM f1).1 w (by omega)
  have hD2 := fun w => rdigits_any f2 w (by omega)
  have hs1 := fun h => ExP.digits_ne (s := (ExP.cutM f1).1) h
  have hs2 := fun h => ExP.digits_ne (s := f2) h
  have hp2 := fun h => ExP.val_pos (s := f2) h
  have hF := ExP.cutM_cases f1 h0
  generalize ExP.cutM f1 = sm at *
  obtain ⟨s, m⟩ := sm
  dsimp only at *
  generalize ExP.digitsP s = d1 at *
  generalize ExP.digitsP f2 = d2 at *
  by_cases hbad : d1 = false ∨ d2 = false ∨ f2 = [48] ∨ (s = [48] ∧ m = true)
  · rw [if_pos hbad] at hE
    subst hE
    rcases hF with ⟨r, rfl, e⟩ | ⟨c, r, rfl, hc, e⟩
    · cases e
      have hdl : (List.drop 1 ((45 : UInt8) :: s)).length = s.length := rfl
      refine enter env_ok Tryz.func15 rfl Tryz.results15 Tryz.ntmps15 [] [200008] [.agg [.str (45 :: s), .str f2]] (by simp [SV.oks, SV.ok]) (Nat.le_of_ble_eq_true rfl) w _ 1000 ?_
      repeat' (first | ((with_reducible first | show wpS _ _ _ _ | show putD _ _ _ _ | show putW _ _ _ _ | show splitG _ _ _ | show wpQ _ _ _ _ _ _ | show wpD _ _ _ _ _ _ _ | show wpX _ _ _ _ _ _ _ | show expX _ _ _ _ _ _ | show stepX _ _ _ _ | show keepR _ _ _ | show wpY _ _ _ _); conv => whnf) | ((with_reducible show RetN _ _ _); refine retB fun β => ?_) | ((with_reducible show _ ∧ _); first | (apply And.intro; (· intro h; exfalso; first | omega | (revert h; decide)); intro _) | (apply And.intro; rotate_left; (· intro h; exfalso; first | omega | (revert h; decide)); intro _) | (refine ⟨fun _ => ?_, fun _ => ?_⟩) | (apply And.intro; · kernel_rfl) | (apply And.intro; · (show inK _ _; unfold inK; omega)) | (apply And.intro; · (show (_ : Int) ≤ 9223372036854775807; (try simp only [List.length_append, List.length_drop, List.length_take, List.length_cons, List.length_nil]); omega))) | ((with_reducible show AllBe _); refine allBe fun βe => ?_; conv => whnf) | ((with_reducible show bothX _ _); refine bothI ?_ ?_; conv => whnf) | (with_reducible exact trivial) | ((with_reducible show CallN _ _ _ _ _ _ _ _); refine call_of env_ok rfl 1000 ?_) | ((with_reducible show XopN _ _ _ _ _ _); refine xop_of env_ok rfl 1000 ?_) | ((with_reducible show CallX _ _ _ _ _ _); first | (refine callX (.bool d1) (by kernel_rfl) rfl (trivial) (fun β w hm => hD1 w) ?_) | (refine callX (.bool d2) (by kernel_rfl) rfl (trivial) (fun β w hm => hD2 w) ?_)) | ((with_reducible show OpX _ _ _ _); first | fail) | ((with_reducible show ∃ _ : SV, _); first | fail) | ((with_reducible show ∃ _, _); first | (refine ⟨0, rfl, by simp, ?_⟩) | (refine ⟨1, rfl, by simp, ?_⟩)))
      all_goals first | rfl | (exfalso; exact hm0 ⟨(by assumption : List.drop 1 ((45 : UInt8) :: s) = [48]), rfl⟩) | (exfalso; simp_all; done) | skip
    · cases e
      have hc0 : ((c :: r : List UInt8).getD 0 0).toNat = c.toNat := rfl
      refine enter env_ok Tryz.func15 rfl Tryz.results15 Tryz.ntmps15 [] [200008] [.agg [.str (c :: r), .str f2]] (by simp [SV.oks, SV.ok]) (Nat.le_of_ble_eq_true rfl) w _ 1000 ?_
      repeat' (first | ((with_reducible first | show wpS _ _ _ _ | show putD _ _ _ _ | show putW _ _ _ _ | show splitG _ _ _ | show wpQ _ _ _ _ _ _ | show wpD _ _ _ _ _ _ _ | show wpX _ _ _ _ _ _ _ | show expX _ _ _ _ _ _ | show stepX _ _ _ _ | show keepR _ _ _ | show wpY _ _ _ _); conv => whnf) | ((with_reducible show RetN _ _ _); refine retB fun β => ?_) | ((with_reducible show _ ∧ _); first | (apply And.intro; (· intro h; exfalso; first | omega | (revert h; decide)); intro _) | (apply And.intro; rotate_left; (· intro h; exfalso; first | omega | (revert h; decide)); intro _) | (refine ⟨fun _ => ?_, fun _ => ?_⟩) | (apply And.intro; · kernel_rfl) | (apply And.intro; · (show inK _ _; unfold inK; omega)) | (apply And.intro; · (show (_ : Int) ≤ 9223372036854775807; (try simp only [List.length_append, List.length_drop, List.length_take, List.length_cons, List.length_nil]); omega))) | ((with_reducible show AllBe _); refine allBe fun βe => ?_; conv => whnf) | ((with_reducible show bothX _ _); refine bothI ?_ ?_; conv => whnf) | (with_reducible exact trivial) | ((with_reducible show CallN _ _ _ _ _ _ _ _); refine call_of env_ok rfl 1000 ?_) | ((with_reducible show XopN _ _ _ _ _ _); refine xop_of env_ok rfl 1000 ?_) | ((with_reducible show CallX _ _ _ _ _ _); first | (refine callX (.bool d1) (by kernel_rfl) rfl (trivial) (fun β w hm => hD1 w) ?_) | (refine callX (.bool d2) (by kernel_rfl) rfl (trivial) (fun β w hm => hD2 w) ?_)) | ((with_reducible show OpX _ _ _ _); first | fail) | ((with_reducible show ∃ _ : SV, _); first | fail) | ((with_reducible show ∃ _, _); first | (refine ⟨0, rfl, by simp, ?_⟩) | (refine ⟨1, rfl, by simp, ?_⟩)))
      all_goals first | rfl | (exfalso; exact hm0 ⟨(by assumption : List.drop 1 ((45 : UInt8) :: s) = [48]), rfl⟩) | (exfalso; simp_all; done) | (exfalso; omega) | skip
  rw [if_neg hbad] at hE
  simp only [not_or, Bool.not_eq_false] at hbad
  obtain ⟨rfl, rfl, hz, hm0⟩ := hbad
  obtain ⟨-, ha1⟩ := hs1 rfl
  obtain ⟨-, ha2⟩ := hs2 rfl
  by_cases hlen : 300 < s.length ∨ 300 < f2.length
  · rw [if_pos hlen] at hE
    subst hE
    rcases hF with ⟨r, rfl, e⟩ | ⟨c, r, rfl, hc, e⟩
    · cases e
      have hdl : (List.drop 1 ((45 : UInt8) :: s)).length = s.length := rfl
      refine enter env_ok Tryz.func15 rfl Tryz.results15 Tryz.ntmps15 [] [200008] [.agg [.str (45 :: s), .str f2]] (by simp [SV.oks, SV.ok]) (Nat.le_of_ble_eq_true rfl) w _ 1000 ?_
      repeat' (first | ((with_reducible first | show wpS _ _ _ _ | show putD _ _ _ _ | show putW _ _ _ _ | show splitG _ _ _ | show wpQ _ _ _ _ _ _ | show wpD _ _ _ _ _ _ _ | show wpX _ _ _ _ _ _ _ | show expX _ _ _ _ _ _ | show stepX _ _ _ _ | show keepR _ _ _ | show wpY _ _ _ _); conv => whnf) | ((with_reducible show RetN _ _ _); refine retB fun β => ?_) | ((with_reducible show _ ∧ _); first | (apply And.intro; (· intro h; exfalso; first | omega | (revert h; decide)); intro _) | (apply And.intro; rotate_left; (· intro h; exfalso; first | omega | (revert h; decide)); intro _) | (refine ⟨fun _ => ?_, fun _ => ?_⟩) | (apply And.intro; · kernel_rfl) | (apply And.intro; · (show inK _ _; unfold inK; omega)) | (apply And.intro; · (show (_ : Int) ≤ 9223372036854775807; (try simp only [List.length_append, List.length_drop, List.length_take, List.length_cons, List.length_nil]); omega))) | ((with_reducible show AllBe _); refine allBe fun βe => ?_; conv => whnf) | ((with_reducible show bothX _ _); refine bothI ?_ ?_; conv => whnf) | (with_reducible exact trivial) | ((with_reducible show CallN _ _ _ _ _ _ _ _); refine call_of env_ok rfl 1000 ?_) | ((with_reducible show XopN _ _ _ _ _ _); refine xop_of env_ok rfl 1000 ?_) | ((with_reducible show CallX _ _ _ _ _ _); first | (refine callX (.lit true) (by kernel_rfl) rfl (trivial) (fun β w hm => hD1 w) ?_) | (refine callX (.lit true) (by kernel_rfl) rfl (trivial) (fun β w hm => hD2 w) ?_)) | ((with_reducible show OpX _ _ _ _); first | fail) | ((with_reducible show ∃ _ : SV, _); first | fail) | ((with_reducible show ∃ _, _); first | (refine ⟨0, rfl, by simp, ?_⟩) | (refine ⟨1, rfl, by simp, ?_⟩)))
      all_goals first | rfl | (exfalso; exact hm0 ⟨(by assumption : List.drop 1 ((45 : UInt8) :: s) = [48]), rfl⟩) | (exfalso; simp_all; done) | (exfalso; omega) | skip
    · cases e
      have hc0 : ((c :: r : List UInt8).getD 0 0).toNat = c.toNat := rfl
      refine enter env_ok Tryz.func15 rfl Tryz.results15 Tryz.ntmps15 [] [200008] [.agg [.str (c :: r), .str f2]] (by simp [SV.oks, SV.ok]) (Nat.le_of_ble_eq_true rfl) w _ 1000 ?_
      repeat' (first | ((with_reducible first | show wpS _ _ _ _ | show putD _ _ _ _ | show putW _ _ _ _ | show splitG _ _ _ | show wpQ _ _ _ _ _ _ | show wpD _ _ _ _ _ _ _ | show wpX _ _ _ _ _ _ _ | show expX _ _ _ _ _ _ | show stepX _ _ _ _ | show keepR _ _ _ | show wpY _ _ _ _); conv => whnf) | ((with_reducible show RetN _ _ _); refine retB fun β => ?_) | ((with_reducible show _ ∧ _); first | (apply And.intro; (· intro h; exfalso; first | omega | (revert h; decide)); intro _) | (apply And.intro; rotate_left; (· intro h; exfalso; first | omega | (revert h; decide)); intro _) | (refine ⟨fun _ => ?_, fun _ => ?_⟩) | (apply And.intro; · kernel_rfl) | (apply And.intro; · (show inK _ _; unfold inK; omega)) | (apply And.intro; · (show (_ : Int) ≤ 9223372036854775807; (try simp only [List.length_append, List.length_drop, List.length_take, List.length_cons, List.length_nil]); omega))) | ((with_reducible show AllBe _); refine allBe fun βe => ?_; conv => whnf) | ((with_reducible show bothX _ _); refine bothI ?_ ?_; conv => whnf) | (with_reducible exact trivial) | ((with_reducible show CallN _ _ _ _ _ _ _ _); refine call_of env_ok rfl 1000 ?_) | ((with_reducible show XopN _ _ _ _ _ _); refine xop_of env_ok rfl 1000 ?_) | ((with_reducible show CallX _ _ _ _ _ _); first | (refine callX (.lit true) (by kernel_rfl) rfl (trivial) (fun β w hm => hD1 w) ?_) | (refine callX (.lit true) (by kernel_rfl) rfl (trivial) (fun β w hm => hD2 w) ?_)) | ((with_reducible show OpX _ _ _ _); first | fail) | ((with_reducible show ∃ _ : SV, _); first | fail) | ((with_reducible show ∃ _, _); first | (refine ⟨0, rfl, by simp, ?_⟩) | (refine ⟨1, rfl, by simp, ?_⟩)))
      all_goals first | rfl | (exfalso; exact hm0 ⟨(by assumption : List.drop 1 ((45 : UInt8) :: s) = [48]), rfl⟩) | (exfalso; simp_all; done) | (exfalso; omega) | skip
  rw [if_neg hlen] at hE
  have hP1 := fun w => natOf_any s w (by omega) ha1
  have hP2 := fun w => natOf_any f2 w (by omega) ha2
  have hn1 := ExP.nd_val (b := 10) (by omega) ha1
  have hn2 := ExP.nd_val (b := 10) (by omega) ha2
  have hv2 := hp2 rfl hz
  generalize ExP.valS s = x at *
  generalize ExP.valS f2 = y at *
  have hgn := ExP.nd_mono (b := 10) (by omega) (Nat.gcd_le_right x hv2)
  have hT := fun a c w' h => rtext_any a c (Nat.gcd x y) w' (by omega) h
  have hd := ExP.dec_one (g := Nat.gcd x y)
  rw [show (if Nat.gcd x y ≠ 1 then (4 : Int) else 0) = if ¬ Lib.decDigits (Nat.gcd x y) = [49] then 4 else 0 by simp only [ne_eq, hd]] at hE
  generalize Lib.decDigits (Nat.gcd x y) = dt at *
  rcases hF with ⟨r, rfl, e⟩ | ⟨c, r, rfl, hc, e⟩
  · cases e
    have hdl : (List.drop 1 ((45 : UInt8) :: s)).length = s.length := rfl
    refine enter env_ok Tryz.func15 rfl Tryz.results15 Tryz.ntmps15 [] [200008] [.agg [.str (45 :: s), .str f2]] (by simp [SV.oks, SV.ok]) (Nat.le_of_ble_eq_true rfl) w _ 1000 ?_
    repeat' (first | ((with_reducible first | show wpS _ _ _ _ | show putD _ _ _ _ | show putW _ _ _ _ | show splitG _ _ _ | show wpQ _ _ _ _ _ _ | show wpD _ _ _ _ _ _ _ | show wpX _ _ _ _ _ _ _ | show expX _ _ _ _ _ _ | show stepX _ _ _ _ | show keepR _ _ _ | show wpY _ _ _ _); conv => whnf) | ((with_reducible show RetN _ _ _); refine retB fun β => ?_) | ((with_reducible show _ ∧ _); first | (apply And.intro; (· intro h; exfalso; first | omega | (revert h; decide)); intro _) | (apply And.intro; rotate_left; (· intro h; exfalso; first | omega | (revert h; decide)); intro _) | (refine ⟨fun _ => ?_, fun _ => ?_⟩) | (apply And.intro; · kernel_rfl) | (apply And.intro; · (show inK _ _; unfold inK; omega)) | (apply And.intro; · (show (_ : Int) ≤ 9223372036854775807; (try simp only [List.length_append, List.length_drop, List.length_take, List.length_cons, List.length_nil]); omega))) | ((with_reducible show AllBe _); refine allBe fun βe => ?_; conv => whnf) | ((with_reducible show bothX _ _); refine bothI ?_ ?_; conv => whnf) | (with_reducible exact trivial) | ((with_reducible show CallN _ _ _ _ _ _ _ _); refine call_of env_ok rfl 1000 ?_) | ((with_reducible show XopN _ _ _ _ _ _); refine xop_of env_ok rfl 1000 ?_) | ((with_reducible show CallX _ _ _ _ _ _); first | (refine callX (.lit true) (by kernel_rfl) rfl (trivial) (fun β w hm => hD1 w) ?_) | (refine callX (.lit true) (by kernel_rfl) rfl (trivial) (fun β w hm => hD2 w) ?_) | (refine callNat .i64 10 x hw0 (by kernel_rfl) rfl (fun β w' hm => hP1 w') (fun a1 c1 q1 q2 q3 => ?_)) | (refine callNat .i64 10 y hw0 (by kernel_rfl) rfl (fun β w' hm => hP2 w') (fun a2 c2 q4 q5 q6 => ?_)) | (refine callNatL (Lz x a1 (Lz y a2 [])) .i64 10 (Nat.gcd x y) hw0 (by kernel_rfl) rfl (by repeat (first | exact apart_nil | refine apart_row 1 (Nat.le_of_ble_eq_true rfl) rfl ?_ | refine apart_row 2 (Nat.le_of_ble_eq_true rfl) rfl ?_ | refine apart_row 3 (Nat.le_of_ble_eq_true rfl) rfl ?_ | refine apart_row 4 (Nat.le_of_ble_eq_true rfl) rfl ?_ | refine apart_row 5 (Nat.le_of_ble_eq_true rfl) rfl ?_)) (fun β w' hm => rgcd_any _ a1 a2 c1 c2 x y w' (Nat.lt_of_lt_of_le hw0 hm.base_le) (by omega) (by omega) q1 q2 q4 q5 Lz_in (fun h => Lz_mem (Lz_in h)) (by first | exact hm.slF 1 rfl | exact hm.slF 2 rfl | exact hm.slF 3 rfl | exact hm.slF 4 rfl | exact hm.slF 5 rfl | exact hm.slB 3 rfl | exact hm.slB 4 rfl | exact hm.slB 5 rfl | exact hm.slB 6 rfl) (by first | exact hm.slF 1 rfl | exact hm.slF 2 rfl | exact hm.slF 3 rfl | exact hm.slF 4 rfl | exact hm.slF 5 rfl | exact hm.slB 3 rfl | exact hm.slB 4 rfl | exact hm.slB 5 rfl | exact hm.slB 6 rfl)) (fun a3 c3 q7 q8 q9 => ?_)) | (refine callX (.str dt) (by kernel_rfl) rfl (trivial) (fun β w hm => hT a3 c3 w (by first | exact hm.slF 1 rfl | exact hm.slF 2 rfl | exact hm.slF 3 rfl | exact hm.slF 4 rfl | exact hm.slF 5 rfl | exact hm.slB 3 rfl | exact hm.slB 4 rfl | exact hm.slB 5 rfl | exact hm.slB 6 rfl)) ?_)) | ((with_reducible show OpX _ _ _ _); first | fail) | ((with_reducible show ∃ _ : SV, _); first | fail) | ((with_reducible show ∃ _, _); first | (refine ⟨0, rfl, by simp, ?_⟩) | (refine ⟨1, rfl, by simp, ?_⟩)))
    all_goals first | (exfalso; exact hm0 ⟨(by assumption : List.drop 1 ((45 : UInt8) :: s) = [48]), rfl⟩) | (exfalso; simp_all; done) | (exfalso; omega) | (simp_all [SV.den]; done) | skip
  · cases e
    have hc0 : ((c :: r : List UInt8).getD 0 0).toNat = c.toNat := rfl
    refine enter env_ok Tryz.func15 rfl Tryz.results15 Tryz.ntmps15 [] [200008] [.agg [.str (c :: r), .str f2]] (by simp [SV.oks, SV.ok]) (Nat.le_of_ble_eq_true rfl) w _ 1000 ?_
    repeat' (first | ((with_reducible first | show wpS _ _ _ _ | show putD _ _ _ _ | show putW _ _ _ _ | show splitG _ _ _ | show wpQ _ _ _ _ _ _ | show wpD _ _ _ _ _ _ _ | show wpX _ _ _ _ _ _ _ | show expX _ _ _ _ _ _ | show stepX _ _ _ _ | show keepR _ _ _ | show wpY _ _ _ _); conv => whnf) | ((with_reducible show RetN _ _ _); refine retB fun β => ?_) | ((with_reducible show _ ∧ _); first | (apply And.intro; (· intro h; exfalso; first | omega | (revert h; decide)); intro _) | (apply And.intro; rotate_left; (· intro h; exfalso; first | omega | (revert h; decide)); intro _) | (refine ⟨fun _ => ?_, fun _ => ?_⟩) | (apply And.intro; · kernel_rfl) | (apply And.intro; · (show inK _ _; unfold inK; omega)) | (apply And.intro; · (show (_ : Int) ≤ 9223372036854775807; (try simp only [List.length_append, List.length_drop, List.length_take, List.length_cons, List.length_nil]); omega))) | ((with_reducible show AllBe _); refine allBe fun βe => ?_; conv => whnf) | ((with_reducible show bothX _ _); refine bothI ?_ ?_; conv => whnf) | (with_reducible exact trivial) | ((with_reducible show CallN _ _ _ _ _ _ _ _); refine call_of env_ok rfl 1000 ?_) | ((with_reducible show XopN _ _ _ _ _ _); refine xop_of env_ok rfl 1000 ?_) | ((with_reducible show CallX _ _ _ _ _ _); first | (refine callX (.lit true) (by kernel_rfl) rfl (trivial) (fun β w hm => hD1 w) ?_) | (refine callX (.lit true) (by kernel_rfl) rfl (trivial) (fun β w hm => hD2 w) ?_) | (refine callNat .i64 10 x hw0 (by kernel_rfl) rfl (fun β w' hm => hP1 w') (fun a1 c1 q1 q2 q3 => ?_)) | (refine callNat .i64 10 y hw0 (by kernel_rfl) rfl (fun β w' hm => hP2 w') (fun a2 c2 q4 q5 q6 => ?_)) | (refine callNatL (Lz x a1 (Lz y a2 [])) .i64 10 (Nat.gcd x y) hw0 (by kernel_rfl) rfl (by repeat (first | exact apart_nil | refine apart_row 1 (Nat.le_of_ble_eq_true rfl) rfl ?_ | refine apart_row 2 (Nat.le_of_ble_eq_true rfl) rfl ?_ | refine apart_row 3 (Nat.le_of_ble_eq_true rfl) rfl ?_ | refine apart_row 4 (Nat.le_of_ble_eq_true rfl) rfl ?_ | refine apart_row 5 (Nat.le_of_ble_eq_true rfl) rfl ?_)) (fun β w' hm => rgcd_any _ a1 a2 c1 c2 x y w' (Nat.lt_of_lt_of_le hw0 hm.base_le) (by omega) (by omega) q1 q2 q4 q5 Lz_in (fun h => Lz_mem (Lz_in h)) (by first | exact hm.slF 1 rfl | exact hm.slF 2 rfl | exact hm.slF 3 rfl | exact hm.slF 4 rfl | exact hm.slF 5 rfl | exact hm.slB 3 rfl | exact hm.slB 4 rfl | exact hm.slB 5 rfl | exact hm.slB 6 rfl) (by first | exact hm.slF 1 rfl | exact hm.slF 2 rfl | exact hm.slF 3 rfl | exact hm.slF 4 rfl | exact hm.slF 5 rfl | exact hm.slB 3 rfl | exact hm.slB 4 rfl | exact hm.slB 5 rfl | exact hm.slB 6 rfl)) (fun a3 c3 q7 q8 q9 => ?_)) | (refine callX (.str dt) (by kernel_rfl) rfl (trivial) (fun β w hm => hT a3 c3 w (by first | exact hm.slF 1 rfl | exact hm.slF 2 rfl | exact hm.slF 3 rfl | exact hm.slF 4 rfl | exact hm.slF 5 rfl | exact hm.slB 3 rfl | exact hm.slB 4 rfl | exact hm.slB 5 rfl | exact hm.slB 6 rfl)) ?_)) | ((with_reducible show OpX _ _ _ _); first | fail) | ((with_reducible show ∃ _ : SV, _); first | fail) | ((with_reducible show ∃ _, _); first | (refine ⟨0, rfl, by simp, ?_⟩) | (refine ⟨1, rfl, by simp, ?_⟩)))
    all_goals first | (exfalso; exact hm0 ⟨(by assumption : List.drop 1 ((45 : UInt8) :: s) = [48]), rfl⟩) | (exfalso; simp_all; done) | (exfalso; omega) | (simp_all [SV.den]; done) | skip
end Go.Proofs.YtfodbfbljeeojaaGreatDoor
namespace Go.Proofs.YtfodbfbljeeojaaGreatDoor
open Go.RowKit
open Sym
attribute [local irreducible] Calls Sym.AggEq ExP.nd ExP.dig ExP.upd
set_option maxRecDepth 100000 in
set_option maxHeartbeats 4000000 in
theorem ratOf_any (f : ExP.Fr) (w : World) (hw0 : 0 < w.heap.size) (hE : ExP.readE f = 0) :
    Calls Tryz.prog 18 #[frV f] w (FrOut .i64 10 (ExP.readN f) w) := by
  obtain ⟨h1, h2, h3, h4, h5, h6, h7⟩ := ExP.read_ok hE
  obtain ⟨f1, f2⟩ := f
  dsimp only at *
  have hN : ExP.readN (f1, f2) = ⟨(ExP.cutM f1).2, ExP.valS (ExP.cutM f1).1, ExP.valS f2⟩ := rfl
  rw [hN]
  have h0 : f1 ≠ [] := by rintro rfl; exact absurd h1 (by decide)
  have hP1 := fun w => natOf_any (ExP.cutM f1).1 w (by omega) (ExP.digits_ne h1).2
  have hP2 := fun w => natOf_any f2 w (by omega) (ExP.digits_ne h2).2
  have hF := ExP.cutM_cases f1 h0
  clear hN h6 h7 hE h1 h2
  generalize ExP.cutM f1 = sm at *
  obtain ⟨s, m⟩ := sm
  dsimp only at *
  generalize ExP.valS s = x at *
  generalize ExP.valS f2 = y at *
  rcases hF with ⟨r, rfl, e⟩ | ⟨c, r, rfl, hc, e⟩
  · cases e
    refine enter env_ok Tryz.func18 rfl Tryz.results18 Tryz.ntmps18 [] [200002, 200003] [.agg [.str (45 :: s), .str f2]] (by simp [SV.oks, SV.ok]) (Nat.le_of_ble_eq_true rfl) w _ 1000 ?_
    repeat' (first | ((with_reducible first | show wpS _ _ _ _ | show putD _ _ _ _ | show putW _ _ _ _ | show splitG _ _ _ | show wpQ _ _ _ _ _ _ | show wpD _ _ _ _ _ _ _ | show wpX _ _ _ _ _ _ _ | show expX _ _ _ _ _ _ | show stepX _ _ _ _ | show keepR _ _ _ | show wpY _ _ _ _); conv => whnf) | ((with_reducible show RetN _ _ _); refine retB fun β => ?_) | ((with_reducible show _ ∧ _); first | (apply And.intro; (· intro h; exfalso; first | omega | (revert h; decide)); intro _) | (apply And.intro; rotate_left; (· intro h; exfalso; first | omega | (revert h; decide)); intro _) | (refine ⟨fun _ => ?_, fun _ => ?_⟩) | (apply And.intro; · kernel_rfl) | (apply And.intro; · (show inK _ _; unfold inK; omega)) | (apply And.intro; · (show (_ : Int) ≤ 9223372036854775807; (try simp only [List.length_append, List.length_drop, List.length_take, List.length_cons, List.length_nil]); omega))) | ((with_reducible show AllBe _); refine allBe fun βe => ?_; conv => whnf) | ((with_reducible show bothX _ _); refine bothI ?_ ?_; conv => whnf) | (with_reducible exact trivial) | ((with_reducible show CallN _ _ _ _ _ _ _ _); refine call_of env_ok rfl 1000 ?_) | ((with_reducible show XopN _ _ _ _ _ _); refine xop_of env_ok rfl 1000 ?_) | ((with_reducible show CallX _ _ _ _ _ _); first | (refine callNat .i64 10 x hw0 (by kernel_rfl) rfl (fun β w' hm => hP1 w') (fun a1 c1 q1 q2 q3 => ?_)) | (refine callNat .i64 10 y hw0 (by kernel_rfl) rfl (fun β w' hm => hP2 w') (fun a2 c2 q4 q5 q6 => ?_))) | ((with_reducible show OpX _ _ _ _); first | fail) | ((with_reducible show ∃ _ : SV, _); first | fail) | ((with_reducible show ∃ _, _); first | (refine ⟨0, rfl, by simp, ?_⟩) | (refine ⟨1, rfl, by simp, ?_⟩)))
    all_goals first | (exfalso; simp_all; done) | skip
    all_goals refine ret fun β w' hm => ?_
    all_goals exact ⟨⟨_, _, _, a1, c1, a2, c2⟩, rfl, rfl, ⟨q1, q4, q2, q5⟩, Ls2 (by first | exact hm.slF 2 rfl | exact hm.slF 3 rfl | exact hm.slF 4 rfl | exact hm.slF 5 rfl | exact hm.slF 6 rfl | exact hm.slF 7 rfl | exact hm.slF 8 rfl | exact hm.slF 9 rfl) (by first | exact hm.freshF 2 rfl rfl | exact hm.freshF 3 rfl rfl | exact hm.freshF 4 rfl rfl | exact hm.freshF 5 rfl rfl | exact hm.freshF 6 rfl rfl | exact hm.freshF 7 rfl rfl | exact hm.freshF 8 rfl rfl | exact hm.freshF 9 rfl rfl) (by first | exact hm.slF 2 rfl | exact hm.slF 3 rfl | exact hm.slF 4 rfl | exact hm.slF 5 rfl | exact hm.slF 6 rfl | exact hm.slF 7 rfl | exact hm.slF 8 rfl | exact hm.slF 9 rfl) (by first | exact hm.freshF 2 rfl rfl | exact hm.freshF 3 rfl rfl | exact hm.freshF 4 rfl rfl | exact hm.freshF 5 rfl rfl | exact hm.freshF 6 rfl rfl | exact hm.freshF 7 rfl rfl | exact hm.freshF 8 rfl rfl | exact hm.freshF 9 rfl rfl), hm.below⟩
  · cases e
    have hc0 : ((c :: r : List UInt8).getD 0 0).toNat = c.toNat := rfl
    refine enter env_ok Tryz.func18 rfl Tryz.results18 Tryz.ntmps18 [] [200002, 200003] [.agg [.str (c :: r), .str f2]] (by simp [SV.oks, SV.ok]) (Nat.le_of_ble_eq_true rfl) w _ 1000 ?_
    repeat' (first | ((with_reducible first | show wpS _ _ _ _ | show putD _ _ _ _ | show putW _ _ _ _ | show splitG _ _ _ | show wpQ _ _ _ _ _ _ | show wpD _ _ _ _ _ _ _ | show wpX _ _ _ _ _ _ _ | show expX _ _ _ _ _ _ | show stepX _ _ _ _ | show keepR _ _ _ | show wpY _ _ _ _); conv => whnf) | ((with_reducible show RetN _ _ _); refine retB fun β => ?_) | ((with_reducible show _ ∧ _); first | (apply And.intro; (· intro h; exfalso; first | omega | (revert h; decide)); intro _) | (apply And.intro; rotate_left; (· intro h; exfalso; first | omega | (revert h; decide)); intro _) | (refine ⟨fun _ => ?_, fun _ => ?_⟩) | (apply And.intro; · kernel_rfl) | (apply And.intro; · (show inK _ _; unfold inK; omega)) | (apply And.intro; · (show (_ : Int) ≤ 9223372036854775807; (try simp only [List.length_append, List.length_drop, List.length_take, List.length_cons, List.length_nil]); omega))) | ((with_reducible show AllBe _); refine allBe fun βe => ?_; conv => whnf) | ((with_reducible show bothX _ _); refine bothI ?_ ?_; conv => whnf) | (with_reducible exact trivial) | ((with_reducible show CallN _ _ _ _ _ _ _ _); refine call_of env_ok rfl 1000 ?_) | ((with_reducible show XopN _ _ _ _ _ _); refine xop_of env_ok rfl 1000 ?_) | ((with_reducible show CallX _ _ _ _ _ _); first | (refine callNat .i64 10 x hw0 (by kernel_rfl) rfl (fun β w' hm => hP1 w') (fun a1 c1 q1 q2 q3 => ?_)) | (refine callNat .i64 10 y hw0 (by kernel_rfl) rfl (fun β w' hm => hP2 w') (fun a2 c2 q4 q5 q6 => ?_))) | ((with_reducible show OpX _ _ _ _); first | fail) | ((with_reducible show ∃ _ : SV, _); first | fail) | ((with_reducible show ∃ _, _); first | (refine ⟨0, rfl, by simp, ?_⟩) | (refine ⟨1, rfl, by simp, ?_⟩)))
    all_goals first | (exfalso; omega) | skip
    all_goals refine ret fun β w' hm => ?_
    all_goals exact ⟨⟨_, _, _, a1, c1, a2, c2⟩, rfl, rfl, ⟨q1, q4, q2, q5⟩, Ls2 (by first | exact hm.slF 2 rfl | exact hm.slF 3 rfl | exact hm.slF 4 rfl | exact hm.slF 5 rfl | exact hm.slF 6 rfl | exact hm.slF 7 rfl | exact hm.slF 8 rfl | exact hm.slF 9 rfl) (by first | exact hm.freshF 2 rfl rfl | exact hm.freshF 3 rfl rfl | exact hm.freshF 4 rfl rfl | exact hm.freshF 5 rfl rfl | exact hm.freshF 6 rfl rfl | exact hm.freshF 7 rfl rfl | exact hm.freshF 8 rfl rfl | exact hm.freshF 9 rfl rfl) (by first | exact hm.slF 2 rfl | exact hm.slF 3 rfl | exact hm.slF 4 rfl | exact hm.slF 5 rfl | exact hm.slF 6 rfl | exact hm.slF 7 rfl | exact hm.slF 8 rfl | exact hm.slF 9 rfl) (by first | exact hm.freshF 2 rfl rfl | exact hm.freshF 3 rfl rfl | exact hm.freshF 4 rfl rfl | exact hm.freshF 5 rfl rfl | exact hm.freshF 6 rfl rfl | exact hm.freshF 7 rfl rfl | exact hm.freshF 8 rfl rfl | exact hm.freshF 9 rfl rfl), hm.below⟩
set_option maxRecDepth 100000 in
set_option maxHeartbeats 4000000 in
theorem rfrac_any (x : FrV) (w : World) (hw0 : 0 < w.heap.size) (hx : FrIn .i64 10 x w) (hd : 0 < x.d)
    (hxn : ExP.nd 10 x.n ≤ 1000000) (hxd : ExP.nd 10 x.d ≤ 1000000) :
    Calls Tryz.prog 62 #[x.val 10] w (WrOut (ExP.writeF x.num) (ExP.writeE x.num) w) := by
  obtain ⟨m, n, d, a, c, b, e⟩ := x
  obtain ⟨hx1, hx2, ⟨hx3, hx4, hx5, hx6⟩⟩ := hx
  dsimp only [FrV.num, FrV.val] at *
  have hF : ExP.writeF ⟨m, n, d⟩ = if n = 0 then ([48], [49]) else if (300 < (Lib.decDigits (n / Nat.gcd n d)).length ∨ 300 < (Lib.decDigits (d / Nat.gcd n d)).length) then ([], []) else (ExP.signP m (Lib.decDigits (n / Nat.gcd n d)), Lib.decDigits (d / Nat.gcd n d)) := rfl
  have hE : ExP.writeE ⟨m, n, d⟩ = if n = 0 then 0 else if (300 < (Lib.decDigits (n / Nat.gcd n d)).length ∨ 300 < (Lib.decDigits (d / Nat.gcd n d)).length) then 19 else 0 := rfl
  have hrp := fun h => ExP.red_pos (x := ⟨m, n, d⟩) h hd
  simp only [ExP.redN, ExP.redD] at hrp
  generalize ExP.writeF ⟨m, n, d⟩ = F at *
  generalize ExP.writeE ⟨m, n, d⟩ = E at *
  by_cases hn : n = 0
  · rw [if_pos hn] at hF hE
    have h0 := ExP.nd_zero 10
    subst hF hE hn
    refine enter env_ok Tryz.func62 rfl Tryz.results62 Tryz.ntmps62 [] [] [.agg [.bool m, .any (.slice a (ExP.nd 10 0) c), .any (.slice b (ExP.nd 10 d) e)]] ⟨⟨trivial, rfl, rfl, trivial⟩, trivial⟩ (Nat.le_of_ble_eq_true rfl) w _ 1000 ?_
    repeat' (first | ((with_reducible first | show wpS _ _ _ _ | show putD _ _ _ _ | show putW _ _ _ _ | show splitG _ _ _ | show wpQ _ _ _ _ _ _ | show wpD _ _ _ _ _ _ _ | show wpX _ _ _ _ _ _ _ | show expX _ _ _ _ _ _ | show stepX _ _ _ _ | show keepR _ _ _ | show wpY _ _ _ _); conv => whnf) | ((with_reducible show RetN _ _ _); refine retB fun β => ?_) | ((with_reducible show _ ∧ _); first | (apply And.intro; (· intro h; exfalso; first | omega | (revert h; decide)); intro _) | (apply And.intro; rotate_left; (· intro h; exfalso; first | omega | (revert h; decide)); intro _) | (refine ⟨fun _ => ?_, fun _ => ?_⟩) | (apply And.intro; · kernel_rfl) | (apply And.intro; · (show inK _ _; unfold inK; omega)) | (apply And.intro; · (show (_ : Int) ≤ 9223372036854775807; (try simp only [List.length_append, List.length_drop, List.length_take, List.length_cons, List.length_nil]); omega))) | ((with_reducible show AllBe _); refine allBe fun βe => ?_; conv => whnf) | ((with_reducible show bothX _ _); refine bothI ?_ ?_; conv => whnf) | (with_reducible exact trivial) | ((with_reducible show CallN _ _ _ _ _ _ _ _); refine call_of env_ok rfl 1000 ?_) | ((with_reducible show XopN _ _ _ _ _ _); refine xop_of env_ok rfl 1000 ?_) | ((with_reducible show CallX _ _ _ _ _ _); first | fail) | ((with_reducible show OpX _ _ _ _); first | fail) | ((with_reducible show ∃ _ : SV, _); first | (refine ⟨_, ?ok, x_len Tryz.underlying34, ?_⟩; (case ok => exact fun _ _ => trivial))) | ((with_reducible show ∃ _, _); first | fail))
    all_goals first | rfl | (exfalso; omega)
  · rw [if_neg hn] at hF hE
    have hnp := Nat.pos_of_ne_zero hn
    have hnn := (ExP.nd_pos (b := 10) (by omega)).2 hnp
    obtain ⟨hr1, hr2⟩ := hrp hnp
    have hg := Nat.gcd_pos_of_pos_left d hnp
    have hgn := ExP.nd_mono (b := 10) (by omega) (Nat.gcd_le_right n hd)
    have hG := fun (w' : World) (h : Below w.heap.size w w') => rgcd_any (Lz n a (Lz d b [])) a b c e n d w' (Nat.lt_of_lt_of_le hw0 h.size) (by omega) (by omega) hx3 hx5 hx4 hx6 Lz_in (fun h => Lz_mem (Lz_in h)) (hx1.below h) (hx2.below h)
    generalize Nat.gcd n d = g at *
    have hq1 := ExP.nd_mono (b := 10) (by omega) (Nat.div_le_self n g)
    have hq2 := ExP.nd_mono (b := 10) (by omega) (Nat.div_le_self d g)
    have hD1 := fun (a3 : Option Addr) c3 (w' : World) (h : Below w.heap.size w w') h2 => rdivide_any a a3 c c3 n g w' (Nat.lt_of_lt_of_le hw0 h.size) (by omega) (by omega) hg (hx1.below h) h2
    have hD2 := fun (a3 : Option Addr) c3 (w' : World) (h : Below w.heap.size w w') h2 => rdivide_any b a3 e c3 d g w' (Nat.lt_of_lt_of_le hw0 h.size) (by omega) (by omega) hg (hx2.below h) h2
    rw [ExP.nd_dec hr1, ExP.nd_dec hr2] at hF hE
    clear hrp
    generalize n / g = q1 at *
    generalize d / g = q2 at *
    generalize n % g = r1 at *
    generalize d % g = r2 at *
    have hT1 := fun a cap w' => rtext_any a cap q1 w' (by omega)
    have hT2 := fun a cap w' => rtext_any a cap q2 w' (by omega)
    have hl1 := ExP.nd_dec hr1
    generalize Lib.decDigits q1 = s1 at *
    generalize Lib.decDigits q2 = s2 at *
    refine enter env_ok Tryz.func62 rfl Tryz.results62 Tryz.ntmps62 [] [200008] [.agg [.bool m, .any (.slice a (ExP.nd 10 n) c), .any (.slice b (ExP.nd 10 d) e)]] ⟨⟨trivial, rfl, rfl, trivial⟩, trivial⟩ (Nat.le_of_ble_eq_true rfl) w _ 1000 ?_
    repeat' (first | ((with_reducible first | show wpS _ _ _ _ | show putD _ _ _ _ | show putW _ _ _ _ | show splitG _ _ _ | show wpQ _ _ _ _ _ _ | show wpD _ _ _ _ _ _ _ | show wpX _ _ _ _ _ _ _ | show expX _ _ _ _ _ _ | show stepX _ _ _ _ | show keepR _ _ _ | show wpY _ _ _ _); conv => whnf) | ((with_reducible show RetN _ _ _); refine retB fun β => ?_) | ((with_reducible show _ ∧ _); first | (apply And.intro; (· intro h; exfalso; first | omega | (revert h; decide)); intro _) | (apply And.intro; rotate_left; (· intro h; exfalso; first | omega | (revert h; decide)); intro _) | (refine ⟨fun _ => ?_, fun _ => ?_⟩) | (apply And.intro; · kernel_rfl) | (apply And.intro; · (show inK _ _; unfold inK; omega)) | (apply And.intro; · (show (_ : Int) ≤ 9223372036854775807; (try simp only [List.length_append, List.length_drop, List.length_take, List.length_cons, List.length_nil]); omega))) | ((with_reducible show AllBe _); refine allBe fun βe => ?_; conv => whnf) | ((with_reducible show bothX _ _); refine bothI ?_ ?_; conv => whnf) | (with_reducible exact trivial) | ((with_reducible show CallN _ _ _ _ _ _ _ _); refine call_of env_ok rfl 1000 ?_) | ((with_reducible show XopN _ _ _ _ _ _); refine xop_of env_ok rfl 1000 ?_) | ((with_reducible show CallX _ _ _ _ _ _); first | (refine callNatL (Lz n a (Lz d b [])) .i64 10 g hw0 (by kernel_rfl) rfl (apart_old (Nat.le_of_ble_eq_true rfl) hx1 rfl (apart_old (Nat.le_of_ble_eq_true rfl) hx2 rfl apart_nil)) (fun β w' hm => hG w' hm.below) (fun a3 c3 h1 h2 h3 => ?_)) | (refine callNat2 .i64 10 q1 r1 hw0 (by kernel_rfl) rfl (fun β w' hm => hD1 a3 c3 w' hm.below (hm.slB 2 rfl)) (fun qa qc ra rc k1 k2 k3 k4 k5 k6 => ?_)) | (refine callNat2 .i64 10 q2 r2 hw0 (by kernel_rfl) rfl (fun β w' hm => hD2 a3 c3 w' hm.below (hm.slB 2 rfl)) (fun qb qd rb rd k7 k8 k9 k10 k11 k12 => ?_)) | (refine callX (.str s1) (by kernel_rfl) rfl (trivial) (fun β w hm => hT1 qa qc w (hm.slF 3 rfl)) ?_) | (refine callX (.str s2) (by kernel_rfl) rfl (trivial) (fun β w hm => hT2 qb qd w (hm.slF 5 rfl)) ?_)) | ((with_reducible show OpX _ _ _ _); first | fail) | ((with_reducible show ∃ _ : SV, _); first | (refine ⟨_, ?ok, x_len Tryz.underlying34, ?_⟩; (case ok => exact fun _ _ => trivial))) | ((with_reducible show ∃ _, _); first | fail))
    all_goals first | (exfalso; omega) | skip
    all_goals first
      | (rw [if_pos (by omega)] at hF hE; subst hF hE; rfl)
      | (rw [if_neg (by omega)] at hF hE; subst hF hE; simp_all [SV.den, SV.dens, ExP.signP]; done)
end Go.Proofs.YtfodbfbljeeojaaGreatDoor
namespace Go.Proofs.YtfodbfbljeeojaaGreatDoor
open Go.RowKit
theorem eqF_cons {P : Program} {w : World} {d : Nat} {xs ys : Array Value} {f : Field} {fs : List Field} {r r2 : Bool} (a b : Value) (hn : f.name ≠ "_") (ha : (part f.type xs f.offset).run P w = .ok a w) (hb : (part f.type ys f.offset).run P w = .ok b w)
    (he : (Op.equalIn d f.type a b).run P w = .ok r w) (hr : (Op.eqFields d xs ys fs).run P w = .ok r2 w) : (Op.eqFields d xs ys (f :: fs)).run P w = .ok (r && r2) w := by
  unfold Op.eqFields
  rw [if_pos hn]
  simp only [Sem.run_bind, ha, hb, he, Result.andThen_ok]
  cases r
  · simp
  · simp [hr]
theorem eqF_nil {P : Program} {w : World} {d : Nat} {xs ys : Array Value} : (Op.eqFields d xs ys []).run P w = .ok true w := rfl
/-- two cells of one kind -/
def ceq : Value → Value → Bool
  | .int _ a, .int _ b => a == b
  | .bool a, .bool b => a == b
  | .string a, .string b => a.toList == b.toList
  | _, _ => false
def ceqs : List Value → List Value → Bool
  | a :: ra, b :: rb => ceq a b && ceqs ra rb
  | _, _ => true
inductive CK where
  | int (k : IntKind)
  | bool
  | str
def ckOf : Value → Option CK
  | .int k _ => some (.int k)
  | .bool _ => some .bool
  | .string _ => some .str
  | _ => none
def CK.fits (P : Program) (t : TypeId) : CK → Prop
  | .int k => P.underlying t = some (.int k)
  | .bool => P.underlying t = some .bool
  | .str => P.underlying t = some .string
def Flat (P : Program) : List Field → List CK → Nat → Prop
  | [], [], _ => True
  | f :: fs, k :: ks, i => f.name ≠ "_" ∧ f.offset = i ∧ P.plainKey f.type = true ∧ k.fits P f.type ∧ Flat P fs ks (i + 1)
  | _, _, _ => False
def CK.ok (P : Program) (t : TypeId) (k : CK) : Bool := match k, P.underlying t with
  | .int k, some (.int k') => decide (k = k')
  | .bool, some .bool => true
  | .str, some .string => true
  | _, _ => false
theorem CK.ok_fits {P : Program} {t : TypeId} {k : CK} (h : k.ok P t = true) : k.fits P t := by
  unfold CK.ok at h
  split at h
  · rename_i e; have := of_decide_eq_true h; subst this; exact e
  · rename_i e; exact e
  · rename_i e; exact e
  · cases h
def flatB (P : Program) : List Field → List CK → Nat → Bool
  | [], [], _ => true
  | f :: fs, k :: ks, i => f.name != "_" && (f.offset == i && (P.plainKey f.type && (k.ok P f.type && flatB P fs ks (i + 1))))
  | _, _, _ => false
theorem flat_of {P : Program} : ∀ (fs : List Field) (ks : List CK) (i : Nat), flatB P fs ks i = true → Flat P fs ks i
  | [], [], _, _ => trivial
  | f :: fs, k :: ks, i, h => by
    simp only [flatB, Bool.and_eq_true, bne_iff_ne, beq_iff_eq] at h
    exact ⟨h.1, h.2.1, h.2.2.1, CK.ok_fits h.2.2.2.1, flat_of fs ks (i + 1) h.2.2.2.2⟩
  | [], _ :: _, _, h => by cases h
  | _ :: _, [], _, h => by cases h
theorem ceq_run {P : Program} {w : World} {d : Nat} {t : TypeId} {k : CK} {a b : Value} (h : k.fits P t) (ha : ckOf a = some k) (hb : ckOf b = some k) : (Op.equalIn (d + 1) t a b).run P w = .ok (ceq a b) w := by
  cases a <;> simp only [ckOf] at ha <;> cases b <;> simp only [ckOf] at hb <;> first | (cases ha; done) | (cases hb; done) | skip
  all_goals (injection ha with ha; injection hb with hb; subst ha)
  all_goals (try (cases hb; done))
  · exact run_equalIn_bool' w d t _ _ h
  · injection hb with hb; subst hb; exact run_equalIn_int w d t _ _ _ _ h
  · exact run_equalIn_string w d t _ _ h
theorem flat_eq {P : Program} {w : World} {d : Nat} {xs ys : Array Value} : ∀ (fs : List Field) (ks : List CK) (i : Nat), Flat P fs ks i → (xs.toList.drop i).map ckOf = ks.map some → (ys.toList.drop i).map ckOf = ks.map some →
    (Op.eqFields (d + 1) xs ys fs).run P w = .ok (ceqs (xs.toList.drop i) (ys.toList.drop i)) w
  | [], [], i, _, hx, hy => by
    have h1 : xs.toList.drop i = [] := by simpa using hx
    rw [h1]; exact eqF_nil
  | f :: fs, k :: ks, i, hf, hx, hy => by
    obtain ⟨h1, h2, h3, h4, h5⟩ := hf
    cases ex : xs.toList.drop i with
    | nil => rw [ex] at hx; simp at hx
    | cons a ra =>
      cases ey : ys.toList.drop i with
      | nil => rw [ey] at hy; simp at hy
      | cons b rb =>
        rw [ex] at hx; rw [ey] at hy
        simp only [List.map_cons, List.cons.injEq] at hx hy
        have dx : xs.toList.drop (i + 1) = ra := by rw [← List.drop_drop, ex]; rfl
        have dy : ys.toList.drop (i + 1) = rb := by rw [← List.drop_drop, ey]; rfl
        have gx : xs[i]? = some a := by rw [← Array.getElem?_toList, ← List.head?_drop, ex]; rfl
        have gy : ys[i]? = some b := by rw [← Array.getElem?_toList, ← List.head?_drop, ey]; rfl
        have ih := flat_eq (w := w) (d := d) (xs := xs) (ys := ys) fs ks (i + 1) h5 (by rw [dx]; exact hx.2) (by rw [dy]; exact hy.2)
        rw [dx, dy] at ih
        exact eqF_cons a b h1 (by rw [h2]; exact run_part_plain w h3 gx) (by rw [h2]; exact run_part_plain w h3 gy) (ceq_run h4 hx.1 hy.1) ih
  | [], _ :: _, _, hf, _, _ => hf.elim
  | _ :: _, [], _, hf, _, _ => hf.elim
theorem agg_eq {P : Program} (w : World) (t : TypeId) (xs ys : Array Value) (ks : List CK) (ht : P.underlying t = some (.struct (P.fieldsOf t))) (hp : P.stoodInHeld t = false) (hf : Flat P (P.fieldsOf t).toList ks 0) (hx : xs.toList.map ckOf = ks.map some) (hy : ys.toList.map ckOf = ks.map some) :
    (Op.equalIn 10000 t (.agg xs) (.agg ys)).run P w = .ok (ceqs xs.toList ys.toList) w := by
  rw [run_equalIn_agg w 9999 t xs ys ht hp]
  exact flat_eq (d := 9998) _ ks 0 hf hx hy
end Go.Proofs.YtfodbfbljeeojaaGreatDoor
