/- Square roots; fractions written and read again; comparisons. Square roots of the program's numbers. -/
import Derived.Test.YtfodbfbljeeojaaGreatDoorEGG
import Derived.Test.YtfodbfbljeeojaaGreatDoorEGI
import Derived.Test.YtfodbfbljeeojaaGreatDoorEExD1
import Derived.Test.YtfodbfbljeeojaaGreatDoorEGU
set_option linter.unusedSimpArgs false
set_option linter.unusedVariables false
namespace Go.Proofs.YtfodbfbljeeojaaGreatDoor
namespace ExP
/-- the square root, rounded down -/
def SqI (a x : Nat) : Prop := a < (x + 1) * (x + 1)
theorem newton_low {a x s : Nat} (hx : 0 < x) (hs : s * s ≤ a) : s ≤ (x + a / x) / 2 := by
  rw [Nat.le_div_iff_mul_le (by omega)]
  rcases Nat.le_total (s * 2) x with h | h
  · exact Nat.le_trans h (Nat.le_add_right _ _)
  · obtain ⟨t, ht⟩ : ∃ t, s * 2 = x + t := ⟨s * 2 - x, by omega⟩
    have h1 : t * x ≤ a := by
      refine Nat.le_trans ?_ hs
      have h2 : (t : Int) = 2 * s - x := by omega
      have h3 : ((t * x : Nat) : Int) ≤ ((s * s : Nat) : Int) := by
        push_cast
        rw [h2]
        have h4 : 0 ≤ ((s : Int) - x) * ((s : Int) - x) := by
          rcases Int.le_total 0 ((s : Int) - x) with h | h
          · exact Int.mul_nonneg h h
          · exact Int.mul_nonneg_of_nonpos_of_nonpos h h
        have h5 : ((s : Int) - x) * ((s : Int) - x) = (s : Int) * s - (2 * s - x) * x := by
          simp only [Int.sub_mul, Int.mul_sub, Int.mul_assoc]
          have : (x : Int) * s = s * x := Int.mul_comm _ _
          omega
        omega
      exact Int.ofNat_le.1 h3
    have h2 : t ≤ a / x := (Nat.le_div_iff_mul_le hx).2 h1
    omega
theorem newton_keep {a x : Nat} (hx : 0 < x) : SqI a ((x + a / x) / 2) := by
  unfold SqI
  rcases Nat.lt_or_ge a (((x + a / x) / 2 + 1) * ((x + a / x) / 2 + 1)) with h | h
  · exact h
  · have := newton_low hx h
    omega
theorem newton_end {a x : Nat} (hx : 0 < x) (h : x ≤ (x + a / x) / 2) : x * x ≤ a := by
  rw [Nat.le_div_iff_mul_le (by omega)] at h
  exact (Nat.le_div_iff_mul_le hx).1 (by omega)
theorem sq_lt {s a n : Nat} (h : s * s ≤ a) (ha : a < 10 ^ (2 * n)) : s < 10 ^ n := by
  rcases Nat.lt_or_ge s (10 ^ n) with h1 | h1
  · exact h1
  · have h2 : 10 ^ n * 10 ^ n ≤ s * s := Nat.mul_le_mul h1 h1
    rw [← Nat.pow_add, show n + n = 2 * n by omega] at h2
    omega
theorem dec_ne (x : Nat) : Lib.decDigits x ≠ [] := by
  rw [Lib.decDigits]; split <;> simp
theorem dec_head (x : Nat) : 0 < x → ∃ c r, Lib.decDigits x = c :: r ∧ c.toNat ≠ 48 := by
  induction x using Nat.strongRecOn with
  | _ x ih =>
  intro hx
  by_cases h : x < 10
  · refine ⟨_, _, Lib.decDigits_one h, ?_⟩
    simp; omega
  · obtain ⟨c, r, h1, h2⟩ := ih (x / 10) (by omega) (by omega)
    exact ⟨c, r ++ [UInt8.ofNat (48 + x % 10)], by rw [dec_big h, h1]; rfl, h2⟩
theorem digitsP_dec (x : Nat) : digitsP (Lib.decDigits x) = true := by
  have ha := dec_digits x
  unfold digitsP
  rw [ha, Bool.and_true]
  rcases Nat.eq_zero_or_pos x with rfl | h
  · rw [Lib.decDigits_one (by omega)]; rfl
  · obtain ⟨c, r, h1, h2⟩ := dec_head x h
    rw [h1]
    have : c ≠ 48 := by rintro rfl; exact h2 rfl
    simp [this]
theorem cutM_dec (x : Nat) : cutM (Lib.decDigits x) = (Lib.decDigits x, false) := by
  have h := dec_digits x
  generalize Lib.decDigits x = l at *
  unfold cutM
  cases l with
  | nil => rfl
  | cons c r =>
    have hc : c ≠ 45 := by
      rintro rfl
      simp [digC] at h
    simp [hc]
theorem dec_zero {x : Nat} : Lib.decDigits x = [48] ↔ x = 0 := by
  constructor
  · intro h
    have := val_dec x
    rw [h] at this
    exact this.symm
  · rintro rfl
    rw [Lib.decDigits_one (by omega)]; rfl
/-- a fraction that was written is read again -/
theorem read_write {n d : Nat} (hd : 0 < d) (hl1 : (Lib.decDigits n).length ≤ 300) (hl2 : (Lib.decDigits d).length ≤ 300) (hg : Nat.gcd n d = 1) :
    readE (Lib.decDigits n, Lib.decDigits d) = 0 ∧ readN (Lib.decDigits n, Lib.decDigits d) = ⟨false, n, d⟩ := by
  unfold readE readN
  dsimp only
  rw [cutM_dec]
  dsimp only
  rw [digitsP_dec, digitsP_dec, val_dec, val_dec]
  refine ⟨?_, rfl⟩
  rw [if_neg, if_neg (by omega), if_neg (by omega)]
  rintro (h | h | h | h)
  · cases h
  · cases h
  · have := dec_zero.1 h; omega
  · cases h.2
/-- what is written of a number that is not too long -/
theorem write_ok {x : Num} (hm : x.m = false) (hd : 0 < x.d) (h1 : nd 10 x.n ≤ 300) (h2 : nd 10 x.d ≤ 300) :
    writeE x = 0 ∧ ∃ n d, writeF x = (Lib.decDigits n, Lib.decDigits d) ∧ readE (writeF x) = 0 ∧ readN (writeF x) = ⟨false, n, d⟩ ∧ 0 < d ∧ n * x.d = x.n * d ∧ nd 10 n ≤ 300 ∧ nd 10 d ≤ 300 := by
  have dl : ∀ y, nd 10 y ≤ 300 → (Lib.decDigits y).length ≤ 300 := fun y hy => by
    rcases Nat.eq_zero_or_pos y with rfl | h
    · rw [Lib.decDigits_one (by omega)]; simp
    · rw [nd_dec h]; exact hy
  have e0 : Lib.decDigits 0 = [48] := dec_zero.2 rfl
  have e1 : Lib.decDigits 1 = [49] := by rw [Lib.decDigits_one (by omega)]; rfl
  by_cases hn : x.n = 0
  · refine ⟨by rw [writeE, if_pos hn], 0, 1, ?_⟩
    have hF : writeF x = (Lib.decDigits 0, Lib.decDigits 1) := by rw [writeF, if_pos hn, e0, e1]
    rw [hF]
    obtain ⟨r1, r2⟩ := read_write (n := 0) (d := 1) (by omega) (by rw [e0]; simp) (by rw [e1]; simp) rfl
    have n1 : nd 10 1 ≤ 300 := Nat.le_trans (nd_le (n := 1) (by omega) (by omega)) (by omega)
    exact ⟨rfl, r1, r2, by omega, by rw [hn]; simp, by rw [nd_zero]; omega, n1⟩
  · have hp := Nat.pos_of_ne_zero hn
    have hg : 0 < Nat.gcd x.n x.d := Nat.gcd_pos_of_pos_left _ hp
    have b1 := nd_mono (b := 10) (by omega) (Nat.div_le_self x.n (Nat.gcd x.n x.d))
    have b2 := nd_mono (b := 10) (by omega) (Nat.div_le_self x.d (Nat.gcd x.n x.d))
    have l1 := dl _ (Nat.le_trans b1 h1)
    have l2 := dl _ (Nat.le_trans b2 h2)
    have ho : ¬ overP x := by unfold overP redN redD; omega
    have hF : writeF x = (Lib.decDigits (x.n / Nat.gcd x.n x.d), Lib.decDigits (x.d / Nat.gcd x.n x.d)) := by
      rw [writeF, if_neg hn, if_neg ho, hm]; rfl
    have hdp : 0 < x.d / Nat.gcd x.n x.d := Nat.div_pos (Nat.le_of_dvd hd (Nat.gcd_dvd_right _ _)) hg
    have hgg : Nat.gcd (x.n / Nat.gcd x.n x.d) (x.d / Nat.gcd x.n x.d) = 1 := Nat.gcd_div_gcd_div_gcd_of_pos_left hp
    obtain ⟨r1, r2⟩ := read_write hdp l1 l2 hgg
    rw [hF]
    refine ⟨by rw [writeE, if_neg hn, if_neg ho], _, _, rfl, r1, r2, hdp, ?_, by omega, by omega⟩
    have q1 := Nat.div_mul_cancel (Nat.gcd_dvd_left x.n x.d)
    have q2 := Nat.div_mul_cancel (Nat.gcd_dvd_right x.n x.d)
    generalize Nat.gcd x.n x.d = g at *
    generalize x.n / g = u at *
    generalize x.d / g = v at *
    rw [← q1, ← q2, Nat.mul_assoc, Nat.mul_comm g v]
end ExP
end Go.Proofs.YtfodbfbljeeojaaGreatDoor
namespace Go.Proofs.YtfodbfbljeeojaaGreatDoor
open Go.RowKit
open Sym
attribute [local irreducible] Calls Sym.AggEq ExP.nd ExP.dig ExP.upd
def ExP.isqF (x : Nat) : Nat → Nat
  | 0 => 0
  | n + 1 => if (n + 1) * (n + 1) ≤ x then n + 1 else ExP.isqF x n
def ExP.isq (x : Nat) : Nat := ExP.isqF x x
theorem ExP.isqF_spec (x : Nat) : ∀ n, x < (n + 1) * (n + 1) → ExP.isqF x n * ExP.isqF x n ≤ x ∧ x < (ExP.isqF x n + 1) * (ExP.isqF x n + 1)
  | 0, h => ⟨by simp [ExP.isqF], by simpa [ExP.isqF] using h⟩
  | n + 1, h => by
    unfold ExP.isqF
    split
    · rename_i h1; exact ⟨h1, h⟩
    · rename_i h1; exact ExP.isqF_spec x n (by omega)
theorem ExP.isq_spec (x : Nat) : ExP.isq x * ExP.isq x ≤ x ∧ x < (ExP.isq x + 1) * (ExP.isq x + 1) :=
  ExP.isqF_spec x x (by have h : (x + 1) * 1 ≤ (x + 1) * (x + 1) := Nat.mul_le_mul_left _ (by omega)
                        omega)
theorem ExP.isq_eq {x s : Nat} (h1 : s * s ≤ x) (h2 : x < (s + 1) * (s + 1)) : ExP.isq x = s := by
  obtain ⟨g1, g2⟩ := ExP.isq_spec x
  rcases Nat.lt_trichotomy (ExP.isq x) s with h | h | h
  · have : (ExP.isq x + 1) * (ExP.isq x + 1) ≤ s * s := Nat.mul_le_mul (by omega) (by omega)
    omega
  · exact h
  · have : (s + 1) * (s + 1) ≤ ExP.isq x * ExP.isq x := Nat.mul_le_mul (by omega) (by omega)
    omega
theorem ExP.nd_9 {X m : Nat} (h : ExP.nd 1000000000 X ≤ m) : ExP.nd 10 X ≤ 9 * m := by
  have h1 := ExP.lt_pow_mono (b := 1000000000) (by omega) (ExP.nd_lt (by omega) X) h
  have e : (1000000000 : Nat) ^ m = 10 ^ (9 * m) := by rw [Nat.pow_mul]
  rw [e] at h1
  exact ExP.nd_le (by omega) h1
theorem ExP.nd_add {b x y m : Nat} (hb : 2 ≤ b) (h1 : ExP.nd b x ≤ m) (h2 : ExP.nd b y ≤ m) : ExP.nd b (x + y) ≤ m + 1 := by
  refine ExP.nd_le hb ?_
  have a1 := ExP.lt_pow_mono (by omega) (ExP.nd_lt hb x) h1
  have a2 := ExP.lt_pow_mono (by omega) (ExP.nd_lt hb y) h2
  have : b ^ m * 2 ≤ b ^ m * b := Nat.mul_le_mul_left _ hb
  rw [Nat.pow_succ]
  omega
structure RtT where
  x : Nat
  a : Option Addr
  c : Nat
structure RtI (X : Nat) (t : RtT) : Prop where
  sq : ExP.SqI X t.x
  pos : 0 < t.x
  nd : ExP.nd 1000000000 t.x ≤ 100000
  an : t.a = none → t.c = 0
  cn : ExP.nd 1000000000 t.x ≤ t.c
set_option maxRecDepth 100000 in
set_option maxHeartbeats 4000000 in
theorem root_any (a : Option Addr) (ca X : Nat) (w : World) (hw : XW w) (hw0 : 0 < w.heap.size) (hX : ExP.nd 1000000000 X ≤ 1000) (ha : a = none → ca = 0) (hca : ExP.nd 1000000000 X ≤ ca) (hs : SlAt a (nv .u32 1000000000 X) w) :
    Calls Tryz.prog 75 #[.slice a (ExP.nd 1000000000 X) ca] w (NatOut .u32 1000000000 (ExP.isq X) w) := by
  obtain ⟨i0, hi, hz0, hz1, hz2⟩ := info_parts u32Info
  have hu := Tryz.underlying67
  have hsz := fun w => Tryz.sizeOf97 w
  have hzv := fun w => Tryz.zeroValue97 w
  have hz := fun w' => zero_any a (ExP.nd 1000000000 X) ca w'
  rw [show decide ((ExP.nd 1000000000 X : Int) = 0) = decide (X = 0) by simp only [ExP.nd_z (b := 1000000000) (by omega)]] at hz
  have HT := fun (w' : World) (h : Below w.heap.size w w') => text_any a ca X w' (hw.below h) (by omega) (hs.below h)
  refine enter env_ok Tryz.func75 rfl Tryz.results75 Tryz.ntmps75 [] [] [.any (.slice a (ExP.nd 1000000000 X) ca)] ⟨rfl, trivial⟩ (Nat.le_of_ble_eq_true rfl) w _ 1000 ?_
  by_cases hX0 : X = 0
  · rw [decide_eq_true hX0] at hz
    repeat' (first | ((with_reducible first | show wpS _ _ _ _ | show putD _ _ _ _ | show putW _ _ _ _ | show splitG _ _ _ | show wpQ _ _ _ _ _ _ | show wpD _ _ _ _ _ _ _ | show wpX _ _ _ _ _ _ _ | show expX _ _ _ _ _ _ | show stepX _ _ _ _ | show keepR _ _ _ | show wpY _ _ _ _); conv => whnf) | ((with_reducible show RetN _ _ _); refine retB fun β => ?_) | ((with_reducible show _ ∧ _); first | (apply And.intro; (· intro h; exfalso; first | omega | (revert h; decide)); intro _) | (apply And.intro; rotate_left; (· intro h; exfalso; first | omega | (revert h; decide)); intro _) | (refine ⟨fun _ => ?_, fun _ => ?_⟩) | (apply And.intro; · kernel_rfl) | (apply And.intro; · (show inK _ _; unfold inK; omega)) | (apply And.intro; · (show (_ : Int) ≤ 9223372036854775807; (try simp only [List.length_append, List.length_drop, List.length_take, List.length_cons, List.length_nil]); omega))) | ((with_reducible show AllBe _); refine allBe fun βe => ?_; conv => whnf) | ((with_reducible show bothX _ _); refine bothI ?_ ?_; conv => whnf) | (with_reducible exact trivial) | ((with_reducible show CallN _ _ _ _ _ _ _ _); refine call_of env_ok rfl 1000 ?_) | ((with_reducible show XopN _ _ _ _ _ _); refine xop_of env_ok rfl 1000 ?_) | ((with_reducible show CallX _ _ _ _ _ _); first | (refine callX (.lit true) (by kernel_rfl) rfl (trivial) (fun β w hm => hz w) ?_)) | ((with_reducible show OpX _ _ _ _); first | fail) | ((with_reducible show ∃ _ : SV, _); first | fail) | ((with_reducible show ∃ _, _); first | fail))
    refine ret fun β w' hm => ?_
    have e : ExP.isq X = X := by subst hX0; exact ExP.isq_eq (by omega) (by omega)
    rw [e]
    have en : nv .u32 1000000000 X = [] := by subst hX0; exact nv_zero _ _
    exact ⟨a, ca, rfl, hs.below hm.below, (fun h => absurd en h), ha, hca, hm.below⟩
  rw [decide_eq_false hX0] at hz
  have hXp := Nat.pos_of_ne_zero hX0
  have hLn := ExP.nd_dec hXp
  have hL9 := ExP.nd_9 hX
  have hL1 := ExP.nd_lt (b := 10) (by omega) X
  generalize ExP.nd 10 X = Ld at *
  generalize Lib.decDigits X = dt at *
  obtain ⟨k, hk⟩ : ∃ k, k = (Ld + 1) / 2 + 1 := ⟨_, rfl⟩
  have hkk : ((dt.length : Int) + 1) / 2 + 1 = (k : Int) := by omega
  have H10 := fun (w' : World) (h : Below w.heap.size w w') => ten_any k w' (Nat.lt_of_lt_of_le hw0 h.size) (by omega)
  have hI0 : ExP.SqI X (10 ^ k) := by
    unfold ExP.SqI
    have h1 : 10 ^ Ld ≤ 10 ^ (k + k) := Nat.pow_le_pow_right (by omega) (by omega)
    rw [Nat.pow_add] at h1
    have h2 : 10 ^ k * 10 ^ k ≤ (10 ^ k + 1) * (10 ^ k + 1) := Nat.mul_le_mul (by omega) (by omega)
    omega
  have hkp : 0 < 10 ^ k := Nat.pow_pos (by omega)
  have hnt : ExP.nd 1000000000 (10 ^ k) ≤ k + 1 := ExP.nd_le (by omega) (Nat.lt_of_lt_of_le (Nat.pow_lt_pow_right (by omega) (Nat.lt_succ_self k)) (Nat.pow_le_pow_left (by omega) _))
  repeat' (first | ((with_reducible first | show wpS _ _ _ _ | show putD _ _ _ _ | show putW _ _ _ _ | show splitG _ _ _ | show wpQ _ _ _ _ _ _ | show wpD _ _ _ _ _ _ _ | show wpX _ _ _ _ _ _ _ | show expX _ _ _ _ _ _ | show stepX _ _ _ _ | show keepR _ _ _ | show wpY _ _ _ _); conv => whnf) | ((with_reducible show RetN _ _ _); refine retB fun β => ?_) | ((with_reducible show _ ∧ _); first | (apply And.intro; (· intro h; exfalso; first | omega | (revert h; decide)); intro _) | (apply And.intro; rotate_left; (· intro h; exfalso; first | omega | (revert h; decide)); intro _) | (refine ⟨fun _ => ?_, fun _ => ?_⟩) | (apply And.intro; · kernel_rfl) | (apply And.intro; · (show inK _ _; unfold inK; omega)) | (apply And.intro; · (show (_ : Int) ≤ 9223372036854775807; (try simp only [List.length_append, List.length_drop, List.length_take, List.length_cons, List.length_nil]); omega))) | ((with_reducible show AllBe _); refine allBe fun βe => ?_; conv => whnf) | ((with_reducible show bothX _ _); refine bothI ?_ ?_; conv => whnf) | (with_reducible exact trivial) | ((with_reducible show CallN _ _ _ _ _ _ _ _); refine call_of env_ok rfl 1000 ?_) | ((with_reducible show XopN _ _ _ _ _ _); refine xop_of env_ok rfl 1000 ?_) | ((with_reducible show CallX _ _ _ _ _ _); first | (refine callX (.lit false) (by kernel_rfl) rfl (trivial) (fun β w hm => hz w) ?_) | (refine callX (.str dt) (by kernel_rfl) rfl (trivial) (fun β w hm => HT w hm.below) ?_) | (refine callNat .u32 1000000000 (10 ^ k) hw0 (by kernel_rfl) rfl (fun β w' hm => by simp only [SV.dens, SV.den]; rw [hkk]; exact H10 w' hm.below) (fun a1 c1 q1 q2 q3 => ?_))) | ((with_reducible show OpX _ _ _ _); first | fail) | ((with_reducible show ∃ _ : SV, _); first | (refine ⟨_, ?ok, x_quo (by omega) (by omega) (by unfold inK; omega), ?_⟩; (case ok => exact fun _ _ => trivial))) | ((with_reducible show ∃ _, _); first | fail))
  refine loop env_ok rfl (T := {t : RtT // RtI X t}) (fun t => ⟨[(0, .any (.slice a (ExP.nd 1000000000 X) ca)), (3, .any (.slice t.1.a (ExP.nd 1000000000 t.1.x) t.1.c))], [(0, false, .blob (SlF w.heap.size t.1.a (nv .u32 1000000000 t.1.x)))], 1, 38⟩) (fun t => t.1.x) ⟨⟨10 ^ k, a1, c1⟩, ⟨hI0, hkp, by dsimp only; omega, q1, q2⟩⟩ 1000 [] [] (fun _ => Nat.zero_le _) (by dsimp only; ((with_reducible show wk _ _); repeat' (first | exact trivial | exact eqSV_refl _ | (refine eqI ?_) | (refine eqS ?_) | (with_reducible exact rfl) | apply And.intro | exact Nat.zero_lt_one | exact Nat.le_of_ble_eq_true rfl | (with_reducible assumption) | ((show (_ : Int) = _); (try dsimp only); omega) | ((show eqSV _ _); simp [eqSV, isB, bval, *]; done) | rfl)); all_goals exact fun b x h => h) (fun t I hI => ?_)
  obtain ⟨⟨x, xa, xc⟩, hsq, hxp, hxn, hxan, hxcn⟩ := t
  dsimp only at hsq hxp hxn hxan hxcn ⊢
  have hn2 : ExP.nd 1000000000 2 = 1 := by
    have h1 := ExP.nd_le (b := 1000000000) (x := 2) (n := 1) (by omega) (by omega)
    have h2 := (ExP.nd_pos (b := 1000000000) (x := 2) (by omega)).2 (by omega)
    omega
  have hv2 : nv .u32 1000000000 2 = [.int .u32 2] := by
    unfold nv ExP.dg
    rw [hn2, ExP.dig_self (by omega)]
    rfl
  have hkeep := ExP.newton_keep (a := X) hxp
  have hend := ExP.newton_end (a := X) hxp
  have D1 := fun (w' : World) (h : Below w.heap.size w w') hx => divide_any a xa ca xc X x w' (Nat.lt_of_lt_of_le hw0 h.size) (by omega) (by omega) hxp (hs.below h) hx
  have hq1 := ExP.nd_mono (b := 1000000000) (by omega) (Nat.div_le_self X x)
  generalize X / x = q at *
  generalize X % x = r at *
  have hpn := ExP.nd_add (b := 1000000000) (x := x) (y := q) (m := 100000) (by omega) hxn (by omega)
  have D2 := fun (p : Option Addr) pc g (w' : World) (h0 : 0 < w'.heap.size) hp hg => divide_any p (some ⟨g, 0, none⟩) pc 1 (x + q) 2 w' h0 (by omega) (by omega) (by omega) hp hg
  rw [hn2, hv2] at D2
  have hyx : (x + q) / 2 < x ∨ x ≤ (x + q) / 2 := by omega
  have hcs := ExP.cmp_sgn 1000000000 (x := (x + q) / 2) (y := x) (by omega)
  have hyn := ExP.nd_mono (b := 1000000000) (by omega) (Nat.div_le_self (x + q) 2)
  generalize (x + q) / 2 = y at *
  generalize (x + q) % 2 = r2 at *
  have hyn2 : y < x → ExP.nd 1000000000 y ≤ 100000 := fun h => Nat.le_trans (ExP.nd_mono (by omega) (Nat.le_of_lt h)) hxn
  have hyp : 0 < y := by
    unfold ExP.SqI at hkeep
    rcases Nat.eq_zero_or_pos y with h | h
    · rw [h] at hkeep; omega
    · exact h
  have SL := 0
  rcases hyx with hlt | hge
  · have hcn : ExP.cmpN 1000000000 y x < 0 := by
      have h1 := hcs.1
      omega
    repeat' (first | ((with_reducible first | show wpS _ _ _ _ | show putD _ _ _ _ | show putW _ _ _ _ | show splitG _ _ _ | show wpQ _ _ _ _ _ _ | show wpD _ _ _ _ _ _ _ | show wpX _ _ _ _ _ _ _ | show expX _ _ _ _ _ _ | show stepX _ _ _ _ | show keepR _ _ _ | show wpY _ _ _ _); conv => whnf) | ((with_reducible show RetN _ _ _); refine retB fun β => ?_) | ((with_reducible show _ ∧ _); first | (apply And.intro; (· intro h; exfalso; first | omega | (revert h; decide)); intro _) | (apply And.intro; rotate_left; (· intro h; exfalso; first | omega | (revert h; decide)); intro _) | (refine ⟨fun _ => ?_, fun _ => ?_⟩) | (apply And.intro; · kernel_rfl) | (apply And.intro; · (show inK _ _; unfold inK; omega)) | (apply And.intro; · (show (_ : Int) ≤ 9223372036854775807; (try simp only [List.length_append, List.length_drop, List.length_take, List.length_cons, List.length_nil]); omega))) | ((with_reducible show AllBe _); refine allBe fun βe => ?_; conv => whnf) | ((with_reducible show bothX _ _); refine bothI ?_ ?_; conv => whnf) | (with_reducible exact trivial) | ((with_reducible show CallN _ _ _ _ _ _ _ _); refine call_of env_ok rfl 1000 ?_) | ((with_reducible show XopN _ _ _ _ _ _); refine xop_of env_ok rfl 1000 ?_) | ((with_reducible show CallX _ _ _ _ _ _); first | (refine callNat2 .u32 1000000000 q r hw0 (by kernel_rfl) rfl (fun β w' hm => D1 w' hm.below (hm.slF 0 rfl)) (fun u1 v1 u2 v2 k1 k2 k3 k4 k5 k6 => ?_)) | (refine callNat .u32 1000000000 (x + q) hw0 (by kernel_rfl) rfl (fun β w' hm => plus_any xa u1 xc v1 x q w' (by omega) (by omega) (hm.slF 0 rfl) (hm.slF 1 rfl)) (fun u3 v3 k7 k8 k9 => ?_)) | (refine callNat2 .u32 1000000000 y r2 hw0 (by kernel_rfl) rfl (fun β w' hm => D2 u3 v3 g1 w' (Nat.lt_of_lt_of_le hw0 hm.base_le) (by first | exact hm.slF 1 rfl | exact hm.slF 2 rfl | exact hm.slF 3 rfl | exact hm.slF 4 rfl | exact hm.slF 5 rfl | exact hm.slB 3 rfl | exact hm.slB 4 rfl | exact hm.slB 5 rfl | exact hm.slB 6 rfl) (by first | exact (hm.own 3 rfl).1 | exact (hm.own 4 rfl).1)) (fun u4 v4 u5 v5 j1 j2 j3 j4 j5 j6 => ?_)) | (refine callX (.int .i64 (ExP.cmpN 1000000000 y x)) (by kernel_rfl) rfl (trivial) (fun β w hm => compare_any u4 xa v4 xc y x w (by omega) (by omega) (by first | exact hm.slF 1 rfl | exact hm.slF 2 rfl | exact hm.slF 3 rfl | exact hm.slF 4 rfl | exact hm.slF 5 rfl | exact hm.slB 3 rfl | exact hm.slB 4 rfl | exact hm.slB 5 rfl | exact hm.slB 6 rfl) (hm.slF 0 rfl)) ?_)) | ((with_reducible show OpX _ _ _ _); first | (refine opx_build1 (sz := 1) rfl rfl rfl (xs := [.int .u32 2]) (fun β => rfl) rfl (by omega) (by omega) hu hsz hzv (fun g1 => ?_))) | ((with_reducible show ∃ _ : SV, _); first | fail) | ((with_reducible show ∃ _, _); first | fail))
    all_goals first | (exfalso; omega) | skip
    all_goals first
      | refine back_copy (Φ := SlF w.heap.size u4 (nv .u32 1000000000 y)) 0 5 rfl rfl rfl (Nat.zero_le _) (by kernel_rfl) ?_
      | refine back_copy (Φ := SlF w.heap.size u4 (nv .u32 1000000000 y)) 0 4 rfl rfl rfl (Nat.zero_le _) (by kernel_rfl) ?_
    all_goals exact hI _ ⟨⟨y, u4, v4⟩, ⟨hkeep, hyp, hyn2 hlt, j1, j2⟩⟩ hlt (by dsimp only; ((with_reducible show wk _ _); repeat' (first | exact trivial | exact eqSV_refl _ | (refine eqI ?_) | (refine eqS ?_) | (with_reducible exact rfl) | apply And.intro | exact Nat.zero_lt_one | exact Nat.le_of_ble_eq_true rfl | (with_reducible assumption) | ((show (_ : Int) = _); (try dsimp only); omega) | ((show eqSV _ _); simp [eqSV, isB, bval, *]; done) | rfl)); all_goals exact fun b x h => h)
  · have hcn : 0 ≤ ExP.cmpN 1000000000 y x := hcs.1.2 hge
    have hr : ExP.isq X = x := ExP.isq_eq (hend hge) hsq
    rw [hr]
    repeat' (first | ((with_reducible first | show wpS _ _ _ _ | show putD _ _ _ _ | show putW _ _ _ _ | show splitG _ _ _ | show wpQ _ _ _ _ _ _ | show wpD _ _ _ _ _ _ _ | show wpX _ _ _ _ _ _ _ | show expX _ _ _ _ _ _ | show stepX _ _ _ _ | show keepR _ _ _ | show wpY _ _ _ _); conv => whnf) | ((with_reducible show RetN _ _ _); refine retB fun β => ?_) | ((with_reducible show _ ∧ _); first | (apply And.intro; (· intro h; exfalso; first | omega | (revert h; decide)); intro _) | (apply And.intro; rotate_left; (· intro h; exfalso; first | omega | (revert h; decide)); intro _) | (refine ⟨fun _ => ?_, fun _ => ?_⟩) | (apply And.intro; · kernel_rfl) | (apply And.intro; · (show inK _ _; unfold inK; omega)) | (apply And.intro; · (show (_ : Int) ≤ 9223372036854775807; (try simp only [List.length_append, List.length_drop, List.length_take, List.length_cons, List.length_nil]); omega))) | ((with_reducible show AllBe _); refine allBe fun βe => ?_; conv => whnf) | ((with_reducible show bothX _ _); refine bothI ?_ ?_; conv => whnf) | (with_reducible exact trivial) | ((with_reducible show CallN _ _ _ _ _ _ _ _); refine call_of env_ok rfl 1000 ?_) | ((with_reducible show XopN _ _ _ _ _ _); refine xop_of env_ok rfl 1000 ?_) | ((with_reducible show CallX _ _ _ _ _ _); first | (refine callNat2 .u32 1000000000 q r hw0 (by kernel_rfl) rfl (fun β w' hm => D1 w' hm.below (hm.slF 0 rfl)) (fun u1 v1 u2 v2 k1 k2 k3 k4 k5 k6 => ?_)) | (refine callNat .u32 1000000000 (x + q) hw0 (by kernel_rfl) rfl (fun β w' hm => plus_any xa u1 xc v1 x q w' (by omega) (by omega) (hm.slF 0 rfl) (hm.slF 1 rfl)) (fun u3 v3 k7 k8 k9 => ?_)) | (refine callNat2 .u32 1000000000 y r2 hw0 (by kernel_rfl) rfl (fun β w' hm => D2 u3 v3 g1 w' (Nat.lt_of_lt_of_le hw0 hm.base_le) (by first | exact hm.slF 1 rfl | exact hm.slF 2 rfl | exact hm.slF 3 rfl | exact hm.slF 4 rfl | exact hm.slF 5 rfl | exact hm.slB 3 rfl | exact hm.slB 4 rfl | exact hm.slB 5 rfl | exact hm.slB 6 rfl) (by first | exact (hm.own 3 rfl).1 | exact (hm.own 4 rfl).1)) (fun u4 v4 u5 v5 j1 j2 j3 j4 j5 j6 => ?_)) | (refine callX (.int .i64 (ExP.cmpN 1000000000 y x)) (by kernel_rfl) rfl (trivial) (fun β w hm => compare_any u4 xa v4 xc y x w (by omega) (by omega) (by first | exact hm.slF 1 rfl | exact hm.slF 2 rfl | exact hm.slF 3 rfl | exact hm.slF 4 rfl | exact hm.slF 5 rfl | exact hm.slB 3 rfl | exact hm.slB 4 rfl | exact hm.slB 5 rfl | exact hm.slB 6 rfl) (hm.slF 0 rfl)) ?_)) | ((with_reducible show OpX _ _ _ _); first | (refine opx_build1 (sz := 1) rfl rfl rfl (xs := [.int .u32 2]) (fun β => rfl) rfl (by omega) (by omega) hu hsz hzv (fun g1 => ?_))) | ((with_reducible show ∃ _ : SV, _); first | fail) | ((with_reducible show ∃ _, _); first | fail))
    all_goals first | (exfalso; omega) | skip
    all_goals refine ret fun β w' hm => ?_
    all_goals exact ⟨xa, xc, rfl, hm.slF 0 rfl, hm.freshF 0 rfl rfl, hxan, hxcn, hm.below⟩
end Go.Proofs.YtfodbfbljeeojaaGreatDoor
