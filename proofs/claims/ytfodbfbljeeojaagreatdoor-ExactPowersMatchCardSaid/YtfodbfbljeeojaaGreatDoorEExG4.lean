/- Powers of the program's numbers. -/
import Derived.Test.YtfodbfbljeeojaaGreatDoorEGU
set_option linter.unusedSimpArgs false
set_option linter.unusedVariables false
namespace Go.Proofs.YtfodbfbljeeojaaGreatDoor
open Go.RowKit
open Sym
attribute [local irreducible] Calls Sym.AggEq ExP.nd ExP.dig ExP.upd
/-- the least number of 301 digits -/
def ExP.lim : Nat := 10 ^ 300
/-- a function that answers with a number and whether it is whole -/
def PwOut (L : List (Option Addr)) (z : Nat) (w : World) (e : Ending) (w' : World) : Prop :=
  ∃ (ok : Bool) (y : Nat) (a : Option Addr) (cap : Nat), e = .returned (.tuple #[.slice a (ExP.nd 1000000000 y) cap, .bool ok]) ∧ (ok = true → y = z) ∧ (ok = false → y = 0 ∧ ExP.lim ≤ z) ∧ SlAt a (nv .u32 1000000000 y) w' ∧ (FreshX a (nv .u32 1000000000 y) w ∨ a ∈ L) ∧ (a = none → cap = 0) ∧ ExP.nd 1000000000 y ≤ cap ∧ Below w.heap.size w w'
theorem Sym.callPw {C : Ctx} {d : Nat} {f : FuncId} {args : List SV} {fr : List (Nat × SV)} {rows : List (Nat × Bool × SRow)} {nx n : Nat} {K : St → Prop} (L : List (Option Addr)) (z : Nat) (h0 : 0 < C.base)
    (he : entersB C.P f = true) (hd : Nat.blt d n = true) (hL : ApartL C L rows nx) (hc : ∀ β w, Mem C.base C.w0 rows nx β w → Calls C.P f (SV.dens β args).toArray w (PwOut L z w))
    (h : ∀ (ok : Bool) y a cap, (ok = true → y = z) → (ok = false → y = 0 ∧ ExP.lim ≤ z) → (a = none → cap = 0) → ExP.nd 1000000000 y ≤ cap → K ⟨(d, .tup [.any (.slice a (ExP.nd 1000000000 y) cap), .bool ok]) :: fr, (nx, false, .blob (SlB a (nv .u32 1000000000 y))) :: rows, nx + 1, n⟩) : CallX C (some d) f args ⟨fr, rows, nx, n⟩ K := by
  unfold CallX
  refine ⟨he, fun β act w hs => (hc β w hs.mem).mono ?_⟩
  rintro e w' ⟨ok, y, a, cap, rfl, ho1, ho2, hsl, hfr, hn, hcap, hb⟩
  have hm := hs.mem
  have hs' : Sat C.base C.w0 ⟨fr, rows, nx, n⟩ β act w' := ⟨hs.defers, hs.size, hs.slot, hm.belowNext hb⟩
  have hbs := hb.size
  have hbl := hm.base_le
  have hex : ∃ q, q < w'.heap.size ∧ SlB a (nv .u32 1000000000 y) q w'.heap[q]? ∧ ∀ i r, get rows i = some (true, r) → β i ≠ q := by
    have hsl0 := hsl
    generalize nv .u32 1000000000 y = xs at hsl hsl0 hfr
    cases xs with
    | nil => exact ⟨0, by omega, fun _ _ i v hi => by simp at hi, fun i r hi => by have := (hm.row i true r hi).2.2.2 rfl; omega⟩
    | cons y r =>
      obtain ⟨ad, e, h1, _⟩ := hsl 0 y rfl
      refine ⟨ad.block, h1, fun W hW i v hi => ?_, fun i r hi => ?_⟩
      · obtain ⟨ad', e', h2, h3⟩ := hsl i v hi
        rw [e] at e'
        cases e'
        exact ⟨ad, e, rfl, by rw [World.cell?_of_block (w := w') (by rw [add_block]; exact hW)]; exact h3⟩
      · rcases hfr with hfr | hfr
        · have := hfr (by simp) ad e
          have := hm.lt i (hm.row i true r hi).2.2.1
          omega
        · exact hL β w hm ad (by rw [← e]; exact hfr) i r hi
  obtain ⟨q, h2, h3, h4⟩ := hex
  have hs2 := hs'.learn (o := false) h2 h3 (fun e => by cases e) h4
  have hs3 := hs2.put (d := d) (by simpa [Nat.blt_eq] using hd) (v := .tup [.any (.slice a (ExP.nd 1000000000 y) cap), .bool ok]) ⟨rfl, trivial, trivial⟩
  exact ⟨_, _, _, rfl, h ok y a cap ho1 ho2 hn hcap, hs3⟩
theorem ExP.pow_big {A O m z : Nat} (h : O * A ^ m = z) (hA : 0 < A) (hO : 0 < O) : O ≤ z ∧ (0 < m → A ≤ z) := by
  subst h
  have h1 : 0 < A ^ m := Nat.pow_pos hA
  refine ⟨Nat.le_mul_of_pos_right _ h1, fun hm => ?_⟩
  have h2 : A ^ 1 ≤ A ^ m := Nat.pow_le_pow_right hA hm
  rw [Nat.pow_one] at h2
  exact Nat.le_trans h2 (Nat.le_mul_of_pos_left _ hO)
theorem ExP.big_of {x : Nat} (h : 34 < ExP.nd 1000000000 x) : ExP.lim ≤ x := by
  have h1 := ExP.le_of_nd (b := 1000000000) (by omega) h
  have h2 : ExP.lim ≤ 1000000000 ^ 34 := by decide +kernel
  exact Nat.le_trans h2 h1
theorem ExP.pw_even {A m : Nat} (h : m % 2 = 0) : A ^ m = (A * A) ^ (m / 2) := by
  rw [← Nat.pow_two, ← Nat.pow_mul]; congr 1; omega
theorem ExP.pw_odd {A m : Nat} (h : m % 2 ≠ 0) : A ^ m = A * (A * A) ^ (m / 2) := by
  rw [← Nat.pow_two, ← Nat.pow_mul, Nat.mul_comm, ← Nat.pow_succ]; congr 1; omega
structure PwT where
  A : Nat
  O : Nat
  m : Nat
  a : Option Addr
  c : Nat
  b : Option Addr
  e : Nat
structure PwI (z : Nat) (t : PwT) : Prop where
  eq : t.O * t.A ^ t.m = z
  a0 : 0 < t.A ∨ t.m = 0
  o0 : 0 < t.O
  na : ExP.nd 1000000000 t.A ≤ 1000
  no : ExP.nd 1000000000 t.O ≤ 34
  ha : t.a = none → t.c = 0
  hb : t.b = none → t.e = 0
  ca : ExP.nd 1000000000 t.A ≤ t.c
  cb : ExP.nd 1000000000 t.O ≤ t.e
  hm : t.m ≤ 1000
set_option maxRecDepth 100000 in
set_option maxHeartbeats 4000000 in
theorem power_any (N R : Nat → Int) (hq : ∀ m, Int.tdiv (N m) 2 = N (m / 2)) (hr : ∀ m, Int.tmod (N m) 2 = R m) (hR0 : ∀ m, m % 2 = 0 → R m = 0) (hR1 : ∀ m, m % 2 ≠ 0 → R m ≠ 0) (hN0 : N 0 = 0) (hN1 : ∀ m, m ≠ 0 → N m ≠ 0) (hNk : ∀ m, m ≤ 1000 → -1000 ≤ N m ∧ N m ≤ 1000)
    (L : List (Option Addr)) (a : Option Addr) (ca x k : Nat) (w : World) (hw0 : 0 < w.heap.size) (hx : ExP.nd 1000000000 x ≤ 1000) (hk : k ≤ 1000) (ha : a = none → ca = 0) (hca : ExP.nd 1000000000 x ≤ ca) (hLa : 0 < x → a ∈ L) (hs : SlAt a (nv .u32 1000000000 x) w) :
    Calls Tryz.prog 72 #[.slice a (ExP.nd 1000000000 x) ca, .int .i64 (N k)] w (PwOut L (x ^ k) w) := by
  obtain ⟨i0, hi, hz0, hz1, hz2⟩ := info_parts u32Info
  have hu := Tryz.underlying67
  have hsz := fun w => Tryz.sizeOf97 w
  have hzv := fun w => Tryz.zeroValue97 w
  have hn1 : ExP.nd 1000000000 1 = 1 := ExP.nd_one (by omega)
  have hv1 : nv .u32 1000000000 1 = [.int .u32 1] := nv_one (by omega)
  have hz := fun w' => zero_any a (ExP.nd 1000000000 x) ca w'
  rw [show decide ((ExP.nd 1000000000 x : Int) = 0) = decide (x = 0) by simp only [ExP.nd_z (b := 1000000000) (by omega)]] at hz
  have ho := fun (w' : World) (h : Below w.heap.size w w') => one_any a ca x w' (by omega) (hs.below h)
  have hNk0 := hNk k hk
  refine enter env_ok Tryz.func72 rfl Tryz.results72 Tryz.ntmps72 [] [] [.any (.slice a (ExP.nd 1000000000 x) ca), .int .i64 (N k)] ⟨rfl, trivial, trivial⟩ (Nat.le_of_ble_eq_true rfl) w _ 1000 ?_
  by_cases hs1 : (x = 0 ∧ k ≠ 0) ∨ x = 1
  · have hy : x ^ k = x := by
      rcases hs1 with ⟨h0, hk0⟩ | h0
      · subst h0; exact Nat.zero_pow (Nat.pos_of_ne_zero hk0)
      · subst h0; exact Nat.one_pow k
    have hN0k : k ≠ 0 → N k ≠ 0 := hN1 k
    repeat' (first | ((with_reducible first | show wpS _ _ _ _ | show putD _ _ _ _ | show putW _ _ _ _ | show splitG _ _ _ | show wpQ _ _ _ _ _ _ | show wpD _ _ _ _ _ _ _ | show wpX _ _ _ _ _ _ _ | show expX _ _ _ _ _ _ | show stepX _ _ _ _ | show keepR _ _ _ | show wpY _ _ _ _); conv => whnf) | ((with_reducible show RetN _ _ _); refine retB fun β => ?_) | ((with_reducible show _ ∧ _); first | (apply And.intro; (· intro h; exfalso; first | omega | (revert h; decide)); intro _) | (apply And.intro; rotate_left; (· intro h; exfalso; first | omega | (revert h; decide)); intro _) | (refine ⟨fun _ => ?_, fun _ => ?_⟩) | (apply And.intro; · kernel_rfl) | (apply And.intro; · (show inK _ _; unfold inK; omega)) | (apply And.intro; · (show (_ : Int) ≤ 9223372036854775807; (try simp only [List.length_append, List.length_drop, List.length_take, List.length_cons, List.length_nil]); omega))) | ((with_reducible show AllBe _); refine allBe fun βe => ?_; conv => whnf) | ((with_reducible show bothX _ _); refine bothI ?_ ?_; conv => whnf) | (with_reducible exact trivial) | ((with_reducible show CallN _ _ _ _ _ _ _ _); refine call_of env_ok rfl 1000 ?_) | ((with_reducible show XopN _ _ _ _ _ _); refine xop_of env_ok rfl 1000 ?_) | ((with_reducible show CallX _ _ _ _ _ _); first | (refine callX (.prop (x = 0) inferInstance) (by kernel_rfl) rfl (trivial) (fun β w hm => hz w) ?_) | (refine callX (.prop (x = 1) inferInstance) (by kernel_rfl) rfl (trivial) (fun β w hm => ho w hm.below) ?_)) | ((with_reducible show OpX _ _ _ _); first | fail) | ((with_reducible show ∃ _ : SV, _); first | fail) | ((with_reducible show ∃ _, _); first | fail))
    all_goals first | (exfalso; simp_all; done) | (exfalso; omega) | skip
    all_goals refine ret fun β w' hm => ?_
    all_goals exact ⟨true, x, a, ca, rfl, (fun _ => hy.symm), (fun h => by cases h), hs.below hm.below, fresh_or hLa, ha, hca, hm.below⟩
  · have hx2 : x ≠ 1 := fun h => hs1 (.inr h)
    have hx0 : x = 0 → k = 0 := fun h => Decidable.byContradiction fun hk0 => hs1 (.inl ⟨h, hk0⟩)
    have hxk : x = 0 → N k = 0 := fun h => by rw [hx0 h]; exact hN0
    repeat' (first | ((with_reducible first | show wpS _ _ _ _ | show putD _ _ _ _ | show putW _ _ _ _ | show splitG _ _ _ | show wpQ _ _ _ _ _ _ | show wpD _ _ _ _ _ _ _ | show wpX _ _ _ _ _ _ _ | show expX _ _ _ _ _ _ | show stepX _ _ _ _ | show keepR _ _ _ | show wpY _ _ _ _); conv => whnf) | ((with_reducible show RetN _ _ _); refine retB fun β => ?_) | ((with_reducible show _ ∧ _); first | (apply And.intro; (· intro h; exfalso; first | omega | (revert h; decide)); intro _) | (apply And.intro; rotate_left; (· intro h; exfalso; first | omega | (revert h; decide)); intro _) | (refine ⟨fun _ => ?_, fun _ => ?_⟩) | (apply And.intro; · kernel_rfl) | (apply And.intro; · (show inK _ _; unfold inK; omega)) | (apply And.intro; · (show (_ : Int) ≤ 9223372036854775807; (try simp only [List.length_append, List.length_drop, List.length_take, List.length_cons, List.length_nil]); omega))) | ((with_reducible show AllBe _); refine allBe fun βe => ?_; conv => whnf) | ((with_reducible show bothX _ _); refine bothI ?_ ?_; conv => whnf) | (with_reducible exact trivial) | ((with_reducible show CallN _ _ _ _ _ _ _ _); refine call_of env_ok rfl 1000 ?_) | ((with_reducible show XopN _ _ _ _ _ _); refine xop_of env_ok rfl 1000 ?_) | ((with_reducible show CallX _ _ _ _ _ _); first | (refine callX (.prop (x = 0) inferInstance) (by kernel_rfl) rfl (trivial) (fun β w hm => hz w) ?_) | (refine callX (.prop (x = 1) inferInstance) (by kernel_rfl) rfl (trivial) (fun β w hm => ho w hm.below) ?_)) | ((with_reducible show OpX _ _ _ _); first | (refine opx_build1 (sz := 1) rfl rfl rfl (xs := [.int .u32 1]) (fun β => rfl) rfl (by omega) (by omega) hu hsz hzv (fun g1 => ?_))) | ((with_reducible show ∃ _ : SV, _); first | fail) | ((with_reducible show ∃ _, _); first | fail))
    all_goals first | (exfalso; simp_all; done) | (exfalso; omega) | skip
    all_goals (
      refine loop_share 0 (nv .u32 1000000000 1) rfl (fun i v h => by rw [hv1] at h; exact h) (fun hcap => ?_)
      refine loop_learnA a (nv .u32 1000000000 x) hw0 rfl hs ?_
      refine loop env_ok rfl (T := {t : PwT // PwI (x ^ k) t}) (fun t => ⟨[(0, .any (.slice t.1.a (ExP.nd 1000000000 t.1.A) t.1.c)), (1, .int .i64 (N t.1.m)), (6, .any (.slice t.1.b (ExP.nd 1000000000 t.1.O) t.1.e))], [(0, false, .blob (SlF w.heap.size t.1.b (nv .u32 1000000000 t.1.O))), (1, false, .blob (SlB t.1.a (nv .u32 1000000000 t.1.A)))], 2, 49⟩) (fun t => t.1.m) ⟨⟨x, 1, k, a, ca, some ⟨g1, 0, none⟩, 1⟩, ⟨Nat.one_mul _, by dsimp only; omega, by dsimp only; omega, hx, by dsimp only; omega, ha, (fun h => by cases h), hca, by dsimp only; omega, hk⟩⟩ 1000 [] [] (fun _ => Nat.zero_le _) (by dsimp only; rw [hn1]; ((with_reducible show wk _ _); repeat' (first | exact trivial | exact eqSV_refl _ | (refine eqI ?_) | (refine eqS ?_) | (with_reducible exact rfl) | apply And.intro | exact Nat.zero_lt_one | exact Nat.le_of_ble_eq_true rfl | (with_reducible assumption) | ((show (_ : Int) = _); (try dsimp only); omega) | ((show eqSV _ _); simp [eqSV, isB, bval, *]; done) | rfl)); all_goals exact fun b x h => h) (fun t I hI => ?_)
      obtain ⟨⟨A, O, m, a1, c1, b1, e1⟩, heq, ha0, ho0, hna, hno, hha, hhb, hac, hbc, hmm⟩ := t
      dsimp only at heq ha0 ho0 hna hno hha hhb hac hbc hmm ⊢
      by_cases hm0 : m = 0
      · subst hm0
        rw [Nat.pow_zero, Nat.mul_one] at heq
        repeat' (first | ((with_reducible first | show wpS _ _ _ _ | show putD _ _ _ _ | show putW _ _ _ _ | show splitG _ _ _ | show wpQ _ _ _ _ _ _ | show wpD _ _ _ _ _ _ _ | show wpX _ _ _ _ _ _ _ | show expX _ _ _ _ _ _ | show stepX _ _ _ _ | show keepR _ _ _ | show wpY _ _ _ _); conv => whnf) | ((with_reducible show RetN _ _ _); refine retB fun β => ?_) | ((with_reducible show _ ∧ _); first | (apply And.intro; (· intro h; exfalso; first | omega | (revert h; decide)); intro _) | (apply And.intro; rotate_left; (· intro h; exfalso; first | omega | (revert h; decide)); intro _) | (refine ⟨fun _ => ?_, fun _ => ?_⟩) | (apply And.intro; · kernel_rfl) | (apply And.intro; · (show inK _ _; unfold inK; omega)) | (apply And.intro; · (show (_ : Int) ≤ 9223372036854775807; (try simp only [List.length_append, List.length_drop, List.length_take, List.length_cons, List.length_nil]); omega))) | ((with_reducible show AllBe _); refine allBe fun βe => ?_; conv => whnf) | ((with_reducible show bothX _ _); refine bothI ?_ ?_; conv => whnf) | (with_reducible exact trivial) | ((with_reducible show CallN _ _ _ _ _ _ _ _); refine call_of env_ok rfl 1000 ?_) | ((with_reducible show XopN _ _ _ _ _ _); refine xop_of env_ok rfl 1000 ?_) | ((with_reducible show CallX _ _ _ _ _ _); first | fail) | ((with_reducible show OpX _ _ _ _); first | fail) | ((with_reducible show ∃ _ : SV, _); first | (refine ⟨_, ?ok, x_remT (by decide) (hr m), ?_⟩; (case ok => exact fun _ _ => trivial)) | (refine ⟨_, ?ok, x_quoT (by decide) (hq m) (by unfold inK; omega), ?_⟩; (case ok => exact fun _ _ => trivial)) | (refine ⟨_, ?ok, x_len Tryz.underlying67, ?_⟩; (case ok => exact fun _ _ => trivial))) | ((with_reducible show ∃ _, _); first | fail))
        all_goals first | (exfalso; omega) | skip
        all_goals refine ret fun β w' hm => ?_
        all_goals exact ⟨true, O, b1, e1, rfl, (fun _ => heq), (fun h => by cases h), hm.slF 0 rfl, .inl (hm.freshF 0 rfl rfl), hhb, hbc, hm.below⟩
      · have hNm := hN1 m hm0
        have hA : 0 < A := ha0.resolve_right hm0
        have hk1 := hNk m hmm
        have hk2 := hNk (m / 2) (by omega)
        have hbig := ExP.pow_big heq hA ho0
        have m1 := ExP.nd_mul (b := 1000000000) (x := O) (y := A) (by omega)
        have m2 := ExP.nd_mul (b := 1000000000) (x := A) (y := A) (by omega)
        by_cases hod : m % 2 = 0
        · have hRm := hR0 m hod
          rw [ExP.pw_even hod] at heq
          by_cases hh : m / 2 = 0
          · exfalso; omega
          · have hNh := hN1 (m / 2) hh
            repeat' (first | ((with_reducible first | show wpS _ _ _ _ | show putD _ _ _ _ | show putW _ _ _ _ | show splitG _ _ _ | show wpQ _ _ _ _ _ _ | show wpD _ _ _ _ _ _ _ | show wpX _ _ _ _ _ _ _ | show expX _ _ _ _ _ _ | show stepX _ _ _ _ | show keepR _ _ _ | show wpY _ _ _ _); conv => whnf) | ((with_reducible show RetN _ _ _); refine retB fun β => ?_) | ((with_reducible show _ ∧ _); first | (apply And.intro; (· intro h; exfalso; first | omega | (revert h; decide)); intro _) | (apply And.intro; rotate_left; (· intro h; exfalso; first | omega | (revert h; decide)); intro _) | (refine ⟨fun _ => ?_, fun _ => ?_⟩) | (apply And.intro; · kernel_rfl) | (apply And.intro; · (show inK _ _; unfold inK; omega)) | (apply And.intro; · (show (_ : Int) ≤ 9223372036854775807; (try simp only [List.length_append, List.length_drop, List.length_take, List.length_cons, List.length_nil]); omega))) | ((with_reducible show AllBe _); refine allBe fun βe => ?_; conv => whnf) | ((with_reducible show bothX _ _); refine bothI ?_ ?_; conv => whnf) | (with_reducible exact trivial) | ((with_reducible show CallN _ _ _ _ _ _ _ _); refine call_of env_ok rfl 1000 ?_) | ((with_reducible show XopN _ _ _ _ _ _); refine xop_of env_ok rfl 1000 ?_) | ((with_reducible show CallX _ _ _ _ _ _); first | (refine callNat .u32 1000000000 (A * A) hw0 (by kernel_rfl) rfl (fun β w' hm => times_any a1 a1 c1 c1 A A w' (by omega) (by omega) (hm.slB 1 rfl) (hm.slB 1 rfl)) (fun a4 c4 q4 q5 q6 => ?_))) | ((with_reducible show OpX _ _ _ _); first | fail) | ((with_reducible show ∃ _ : SV, _); first | (refine ⟨_, ?ok, x_remT (by decide) (hr m), ?_⟩; (case ok => exact fun _ _ => trivial)) | (refine ⟨_, ?ok, x_quoT (by decide) (hq m) (by unfold inK; omega), ?_⟩; (case ok => exact fun _ _ => trivial)) | (refine ⟨_, ?ok, x_len Tryz.underlying67, ?_⟩; (case ok => exact fun _ _ => trivial))) | ((with_reducible show ∃ _, _); first | fail))
            all_goals first | (exfalso; omega) | skip
            all_goals first
              | (refine ret fun β w' hm => ?_
                 exact ⟨false, 0, none, 0, by rw [ExP.nd_zero]; rfl, (fun h => by cases h), (fun _ => ⟨rfl, Nat.le_trans (ExP.big_of (x := A) (by omega)) (hbig.2 (by omega))⟩), by rw [nv_zero]; exact sl_nil _ _, .inl (fun h => absurd (nv_zero _ _) h), (fun _ => rfl), by rw [ExP.nd_zero]; exact Nat.le_refl _, hm.below⟩)
              | (refine back_copy 1 2 rfl rfl rfl (Nat.zero_le _) (by kernel_rfl) ?_
                 exact hI _ ⟨⟨A * A, O, m / 2, a4, c4, b1, e1⟩, ⟨heq, .inl (Nat.mul_pos hA hA), ho0, by dsimp only; omega, hno, q4, hhb, q5, hbc, by dsimp only; omega⟩⟩ (by dsimp only; omega) (by dsimp only; ((with_reducible show wk _ _); repeat' (first | exact trivial | exact eqSV_refl _ | (refine eqI ?_) | (refine eqS ?_) | (with_reducible exact rfl) | apply And.intro | exact Nat.zero_lt_one | exact Nat.le_of_ble_eq_true rfl | (with_reducible assumption) | ((show (_ : Int) = _); (try dsimp only); omega) | ((show eqSV _ _); simp [eqSV, isB, bval, *]; done) | rfl)); all_goals first | exact fun b x h => h | exact fun b x h => h.1))
        · have hRm := hR1 m hod
          rw [ExP.pw_odd hod, ← Nat.mul_assoc] at heq
          have hOA : 0 < O * A := Nat.mul_pos ho0 hA
          have hbig2 : O * A ≤ x ^ k := by
            rw [← heq]; exact Nat.le_mul_of_pos_right _ (Nat.pow_pos (Nat.mul_pos hA hA))
          by_cases hh : m / 2 = 0
          · have hNh : N (m / 2) = 0 := by rw [hh]; exact hN0
            repeat' (first | ((with_reducible first | show wpS _ _ _ _ | show putD _ _ _ _ | show putW _ _ _ _ | show splitG _ _ _ | show wpQ _ _ _ _ _ _ | show wpD _ _ _ _ _ _ _ | show wpX _ _ _ _ _ _ _ | show expX _ _ _ _ _ _ | show stepX _ _ _ _ | show keepR _ _ _ | show wpY _ _ _ _); conv => whnf) | ((with_reducible show RetN _ _ _); refine retB fun β => ?_) | ((with_reducible show _ ∧ _); first | (apply And.intro; (· intro h; exfalso; first | omega | (revert h; decide)); intro _) | (apply And.intro; rotate_left; (· intro h; exfalso; first | omega | (revert h; decide)); intro _) | (refine ⟨fun _ => ?_, fun _ => ?_⟩) | (apply And.intro; · kernel_rfl) | (apply And.intro; · (show inK _ _; unfold inK; omega)) | (apply And.intro; · (show (_ : Int) ≤ 9223372036854775807; (try simp only [List.length_append, List.length_drop, List.length_take, List.length_cons, List.length_nil]); omega))) | ((with_reducible show AllBe _); refine allBe fun βe => ?_; conv => whnf) | ((with_reducible show bothX _ _); refine bothI ?_ ?_; conv => whnf) | (with_reducible exact trivial) | ((with_reducible show CallN _ _ _ _ _ _ _ _); refine call_of env_ok rfl 1000 ?_) | ((with_reducible show XopN _ _ _ _ _ _); refine xop_of env_ok rfl 1000 ?_) | ((with_reducible show CallX _ _ _ _ _ _); first | (refine callNat .u32 1000000000 (O * A) hw0 (by kernel_rfl) rfl (fun β w' hm => times_any b1 a1 e1 c1 O A w' (by omega) (by omega) (hm.slF 0 rfl) (hm.slB 1 rfl)) (fun a3 c3 q1 q2 q3 => ?_))) | ((with_reducible show OpX _ _ _ _); first | fail) | ((with_reducible show ∃ _ : SV, _); first | (refine ⟨_, ?ok, x_remT (by decide) (hr m), ?_⟩; (case ok => exact fun _ _ => trivial)) | (refine ⟨_, ?ok, x_quoT (by decide) (hq m) (by unfold inK; omega), ?_⟩; (case ok => exact fun _ _ => trivial)) | (refine ⟨_, ?ok, x_len Tryz.underlying67, ?_⟩; (case ok => exact fun _ _ => trivial))) | ((with_reducible show ∃ _, _); first | fail))
            all_goals first | (exfalso; omega) | skip
            all_goals first
              | (refine ret fun β w' hm => ?_
                 exact ⟨false, 0, none, 0, by rw [ExP.nd_zero]; rfl, (fun h => by cases h), (fun _ => ⟨rfl, Nat.le_trans (ExP.big_of (x := O * A) (by omega)) hbig2⟩), by rw [nv_zero]; exact sl_nil _ _, .inl (fun h => absurd (nv_zero _ _) h), (fun _ => rfl), by rw [ExP.nd_zero]; exact Nat.le_refl _, hm.below⟩)
              | (refine back_copy 0 2 rfl rfl rfl (Nat.zero_le _) (by kernel_rfl) ?_
                 exact hI _ ⟨⟨A, O * A, m / 2, a1, c1, a3, c3⟩, ⟨by dsimp only; rw [hh] at heq ⊢; rw [Nat.pow_zero] at heq ⊢; exact heq, .inl hA, hOA, hna, by dsimp only; omega, hha, q1, hac, q2, by dsimp only; omega⟩⟩ (by dsimp only; omega) (by dsimp only; ((with_reducible show wk _ _); repeat' (first | exact trivial | exact eqSV_refl _ | (refine eqI ?_) | (refine eqS ?_) | (with_reducible exact rfl) | apply And.intro | exact Nat.zero_lt_one | exact Nat.le_of_ble_eq_true rfl | (with_reducible assumption) | ((show (_ : Int) = _); (try dsimp only); omega) | ((show eqSV _ _); simp [eqSV, isB, bval, *]; done) | rfl)); all_goals exact fun b x h => h))
          · have hNh := hN1 (m / 2) hh
            have hbig3 := hbig.2 (by omega)
            repeat' (first | ((with_reducible first | show wpS _ _ _ _ | show putD _ _ _ _ | show putW _ _ _ _ | show splitG _ _ _ | show wpQ _ _ _ _ _ _ | show wpD _ _ _ _ _ _ _ | show wpX _ _ _ _ _ _ _ | show expX _ _ _ _ _ _ | show stepX _ _ _ _ | show keepR _ _ _ | show wpY _ _ _ _); conv => whnf) | ((with_reducible show RetN _ _ _); refine retB fun β => ?_) | ((with_reducible show _ ∧ _); first | (apply And.intro; (· intro h; exfalso; first | omega | (revert h; decide)); intro _) | (apply And.intro; rotate_left; (· intro h; exfalso; first | omega | (revert h; decide)); intro _) | (refine ⟨fun _ => ?_, fun _ => ?_⟩) | (apply And.intro; · kernel_rfl) | (apply And.intro; · (show inK _ _; unfold inK; omega)) | (apply And.intro; · (show (_ : Int) ≤ 9223372036854775807; (try simp only [List.length_append, List.length_drop, List.length_take, List.length_cons, List.length_nil]); omega))) | ((with_reducible show AllBe _); refine allBe fun βe => ?_; conv => whnf) | ((with_reducible show bothX _ _); refine bothI ?_ ?_; conv => whnf) | (with_reducible exact trivial) | ((with_reducible show CallN _ _ _ _ _ _ _ _); refine call_of env_ok rfl 1000 ?_) | ((with_reducible show XopN _ _ _ _ _ _); refine xop_of env_ok rfl 1000 ?_) | ((with_reducible show CallX _ _ _ _ _ _); first | (refine callNat .u32 1000000000 (O * A) hw0 (by kernel_rfl) rfl (fun β w' hm => times_any b1 a1 e1 c1 O A w' (by omega) (by omega) (hm.slF 0 rfl) (hm.slB 1 rfl)) (fun a3 c3 q1 q2 q3 => ?_)) | (refine callNat .u32 1000000000 (A * A) hw0 (by kernel_rfl) rfl (fun β w' hm => times_any a1 a1 c1 c1 A A w' (by omega) (by omega) (hm.slB 1 rfl) (hm.slB 1 rfl)) (fun a4 c4 q4 q5 q6 => ?_))) | ((with_reducible show OpX _ _ _ _); first | fail) | ((with_reducible show ∃ _ : SV, _); first | (refine ⟨_, ?ok, x_remT (by decide) (hr m), ?_⟩; (case ok => exact fun _ _ => trivial)) | (refine ⟨_, ?ok, x_quoT (by decide) (hq m) (by unfold inK; omega), ?_⟩; (case ok => exact fun _ _ => trivial)) | (refine ⟨_, ?ok, x_len Tryz.underlying67, ?_⟩; (case ok => exact fun _ _ => trivial))) | ((with_reducible show ∃ _, _); first | fail))
            all_goals first | (exfalso; omega) | skip
            all_goals first
              | (refine ret fun β w' hm => ?_
                 exact ⟨false, 0, none, 0, by rw [ExP.nd_zero]; rfl, (fun h => by cases h), (fun _ => ⟨rfl, (by first | exact Nat.le_trans (ExP.big_of (x := O * A) (by omega)) hbig2 | exact Nat.le_trans (ExP.big_of (x := A) (by omega)) hbig3)⟩), by rw [nv_zero]; exact sl_nil _ _, .inl (fun h => absurd (nv_zero _ _) h), (fun _ => rfl), by rw [ExP.nd_zero]; exact Nat.le_refl _, hm.below⟩)
              | (refine back_copy 0 2 rfl rfl rfl (Nat.zero_le _) (by kernel_rfl) ?_
                 refine back_copy 1 3 rfl rfl rfl (Nat.zero_le _) (by kernel_rfl) ?_
                 exact hI _ ⟨⟨A * A, O * A, m / 2, a4, c4, a3, c3⟩, ⟨heq, .inl (Nat.mul_pos hA hA), hOA, by dsimp only; omega, by dsimp only; omega, q4, q1, q5, q2, by dsimp only; omega⟩⟩ (by dsimp only; omega) (by dsimp only; ((with_reducible show wk _ _); repeat' (first | exact trivial | exact eqSV_refl _ | (refine eqI ?_) | (refine eqS ?_) | (with_reducible exact rfl) | apply And.intro | exact Nat.zero_lt_one | exact Nat.le_of_ble_eq_true rfl | (with_reducible assumption) | ((show (_ : Int) = _); (try dsimp only); omega) | ((show eqSV _ _); simp [eqSV, isB, bval, *]; done) | rfl)); all_goals first | exact fun b x h => h | exact fun b x h => h.1)))
end Go.Proofs.YtfodbfbljeeojaaGreatDoor
