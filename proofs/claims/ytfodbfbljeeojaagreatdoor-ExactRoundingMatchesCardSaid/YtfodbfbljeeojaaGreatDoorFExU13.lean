/- The law of rounding: what both sides answer, put together. -/
import Derived.Test.YtfodbfbljeeojaaGreatDoorFExU12
import Derived.Test.YtfodbfbljeeojaaGreatDoorFExS3
set_option linter.unusedSimpArgs false
set_option linter.unusedVariables false
namespace Go.Proofs.YtfodbfbljeeojaaGreatDoor
open Go.RowKit
open Sym
attribute [local irreducible] Calls Sym.AggEq ExP.nd ExP.dig ExP.upd ExP.writeF ExP.writeE
theorem ExP.digits_one {s : List UInt8} (h : ExP.digitsP s = true) : s = [49] ↔ ExP.valS s = 1 := by
  constructor
  · rintro rfl; rfl
  · intro hv
    obtain ⟨h1, h2⟩ := ExP.digits_ne h
    cases s with
    | nil => exact absurd rfl h1
    | cons c r =>
      simp only [List.all_cons, Bool.and_eq_true] at h2
      have hc := ExP.digC_nat.1 h2.1
      unfold ExP.valS at hv
      rw [ExP.valF_cons, ExP.valF_eq] at hv
      cases r with
      | nil =>
        have h3 : ExP.valS [] = 0 := rfl
        rw [h3] at hv
        simp at hv
        have : c = 49 := UInt8.toNat_inj.1 (by show c.toNat = 49; omega)
        rw [this]
      | cons d r =>
        have hc0 : c ≠ 48 := by
          rintro rfl
          unfold ExP.digitsP at h
          simp at h
        have hn : c.toNat ≠ 48 := fun e => hc0 (UInt8.toNat_inj.1 e)
        have h4 : 10 ≤ 10 ^ (d :: r).length := by
          have := Nat.pow_le_pow_right (n := 10) (by omega) (show 1 ≤ (d :: r).length by simp)
          simpa using this
        have h5 : 1 * 10 ^ (d :: r).length ≤ (0 * 10 + (c.toNat - 48)) * 10 ^ (d :: r).length := Nat.mul_le_mul_right _ (by omega)
        omega
structure IntI (f : ExP.Fr) (w : World) (K : Int) (ok : Bool) : Prop where
  zero : ok = false → K = 0
  ours : ∀ w', Below w.heap.size w w' → Calls Tryz.prog 42 #[frV f] w' (InOut K ok 0 w')
  refs : ∀ (x : FrV) (w' : World), Below w.heap.size w w' → FrIn .i64 10 x w' → x.num = ExP.readN f → Calls Tryz.prog 43 #[x.val 10] w' fun e w'' => e = .returned (.tuple #[.int .i64 K, .bool ok]) ∧ Below w'.heap.size w' w''
theorem int_both (f : ExP.Fr) (w : World) (hwE : XE w) (hw0 : 0 < w.heap.size) (h1 : f.1.length ≤ 9223372036854775807) (h2 : f.2.length ≤ 9223372036854775807) (hE : ExP.readE f = 0) : ∃ K ok, IntI f w K ok := by
  obtain ⟨q1, q2, q3⟩ := ExP.read_nd hE (b := 10) (by omega)
  have hr := ExP.read_ok hE
  have hm := ExP.read_minus hE
  have hone : f.2 = [49] ↔ (ExP.readN f).d = 1 := ExP.digits_one hr.2.1
  obtain ⟨P, hP⟩ : ∃ P : Nat, (P : Int) = 4611686018427387904 := ⟨4611686018427387904, rfl⟩
  by_cases hb : (ExP.readN f).n ≤ 4611686018427387904
  · by_cases hd : f.2 = [49]
    · refine ⟨ExP.intV f, true, (fun h => by cases h), fun w' h => ?_, fun x w' h hx ex => ?_⟩
      · have := int_small f w' (Nat.lt_of_lt_of_le hw0 h.size) h1 h2 hE hb
        rw [if_pos hd, decide_eq_true hd] at this
        exact this
      · obtain ⟨m, u, v, a, c, b, e⟩ := x
        have en : ExP.readN f = ⟨m, u, v⟩ := ex.symm
        have hg := hr.2.2.2.2.2.1
        rw [en] at q1 q2 q3 hm hone hb hg
        dsimp only at q1 q2 q3 hm hone hb hg
        have := rint_yes ⟨m, u, v, a, c, b, e⟩ w' (Nat.lt_of_lt_of_le hw0 h.size) hx q1 hg hm P hP (hone.1 hd) (by dsimp only; omega)
        unfold ExP.intV
        rw [en]
        exact this
    · refine ⟨0, false, (fun _ => rfl), fun w' h => ?_, fun x w' h hx ex => ?_⟩
      · have := int_small f w' (Nat.lt_of_lt_of_le hw0 h.size) h1 h2 hE hb
        rw [if_neg hd, decide_eq_false hd] at this
        exact this
      · obtain ⟨m, u, v, a, c, b, e⟩ := x
        have en : ExP.readN f = ⟨m, u, v⟩ := ex.symm
        have hg := hr.2.2.2.2.2.1
        rw [en] at q1 q2 q3 hm hone hb hg
        dsimp only at q1 q2 q3 hm hone hb hg
        exact rint_no ⟨m, u, v, a, c, b, e⟩ w' (Nat.lt_of_lt_of_le hw0 h.size) hx q3 q1 q2 hg hm P hP (.inl fun h => hd (hone.2 h))
  · refine ⟨0, false, (fun _ => rfl), fun w' h => ?_, fun x w' h hx ex => ?_⟩
    · exact int_big f w' (hwE.below h) (Nat.lt_of_lt_of_le hw0 h.size) h1 h2 hE (by omega)
    · obtain ⟨m, u, v, a, c, b, e⟩ := x
      have en : ExP.readN f = ⟨m, u, v⟩ := ex.symm
      have hg := hr.2.2.2.2.2.1
      rw [en] at q1 q2 q3 hm hone hb hg
      dsimp only at q1 q2 q3 hm hone hb hg
      exact rint_no ⟨m, u, v, a, c, b, e⟩ w' (Nat.lt_of_lt_of_le hw0 h.size) hx q3 q1 q2 hg hm P hP (.inr (by dsimp only; omega))
structure ShI (f : ExP.Fr) (w : World) (T : List UInt8) (is : Bool) (pl : Int) (M : Nat) : Prop where
  le : M ≤ 1200
  yes : is = true → pl = (M : Int) ∧ T = ExP.fixT (ExP.nearN (ExP.scaleN (ExP.readN f) (M : Int))) M
  no : is = false → pl = -1 ∧ T = []
  ours : ∀ w', Below w.heap.size w w' → Calls Tryz.prog 41 #[frV f] w' (ShOut T is 0 w')
  refs : ∀ (x : FrV) (w' : World), Below w.heap.size w w' → FrIn .i64 10 x w' → x.num = ExP.readN f → Calls Tryz.prog 44 #[x.val 10] w' fun e w'' => e = .returned (.int .i64 pl) ∧ Below w'.heap.size w' w''
theorem short_both (f : ExP.Fr) (w : World) (hw : XW w) (hw0 : 0 < w.heap.size) (h1 : f.1.length ≤ 9223372036854775807) (h2 : f.2.length ≤ 9223372036854775807) (hE : ExP.readE f = 0) : ∃ T is pl M, ShI f w T is pl M := by
  obtain ⟨q1, q2, q3⟩ := ExP.read_nd hE (b := 10) (by omega)
  have hg := (ExP.read_ok hE).2.2.2.2.2.1
  have hm := ExP.read_minus hE
  obtain ⟨r, a, b, hr, hd⟩ := ExP.pl_ex _ q3
  have hM : max a b ≤ 4 * 300 := by
    have h3 := ExP.lt_pow_mono (b := 10) (by omega) (ExP.nd_lt (by omega) (ExP.readN f).d) q2
    rw [hd] at h3
    exact ExP.pl_le h3 (Nat.pos_of_ne_zero fun h => hr.two (by rw [h]))
  refine ⟨_, _, (if r = 1 then ((max a b : Nat) : Int) else -1), max a b, hM, ?_, ?_, fun w' h => shortest_ok f w' (hw.below h) (Nat.lt_of_lt_of_le hw0 h.size) h1 h2 r a b hr hE hd, fun x w' h hx ex => ?_⟩
  rotate_left 2
  · obtain ⟨m, u, v, c, d, e, g⟩ := x
    have en : ExP.readN f = ⟨m, u, v⟩ := ex.symm
    rw [en] at q1 q2 q3 hm hg hd
    exact rplaces_any ⟨m, u, v, c, d, e, g⟩ w' (Nat.lt_of_lt_of_le hw0 h.size) hx q3 q1 q2 hg hm r a b hr hd
  · intro h
    have h1 : r = 1 := of_decide_eq_true h
    rw [if_pos h1, if_pos h1]
    rw [h1] at hd
    exact ⟨rfl, (ExP.short_fixed hd).symm⟩
  · intro h
    have h1 : ¬ r = 1 := of_decide_eq_false h
    rw [if_neg h1, if_neg h1]
    exact ⟨rfl, rfl⟩
end Go.Proofs.YtfodbfbljeeojaaGreatDoor
