/- Decimal places: twos and fives. A walk that reckons: rows doubled, own rows shared ahead of a call. Rounding: the program's Shortest. -/
import Derived.Test.YtfodbfbljeeojaaGreatDoorFGI
import Derived.Test.YtfodbfbljeeojaaGreatDoorFGT
import Derived.Test.YtfodbfbljeeojaaGreatDoorFGU
set_option linter.unusedSimpArgs false
set_option linter.unusedVariables false
namespace Go.Proofs.YtfodbfbljeeojaaGreatDoor
namespace ExP
theorem gcd_ten (x : Nat) : Nat.gcd x 10 = (if x % 2 = 0 then 2 else 1) * (if x % 5 = 0 then 5 else 1) := by
  have h1 : Nat.gcd x 10 = Nat.gcd (x % 10) 10 := by rw [Nat.gcd_comm x 10, Nat.gcd_rec 10 x, Nat.gcd_comm]
  have h2 : x % 2 = x % 10 % 2 := by omega
  have h3 : x % 5 = x % 10 % 5 := by omega
  rw [h1, h2, h3]
  have h4 : x % 10 < 10 := Nat.mod_lt _ (by omega)
  clear h1 h2 h3
  generalize x % 10 = y at *
  revert y
  decide
theorem two_ne {y : Nat} (b : Nat) (h : y % 2 ≠ 0) : (5 ^ b * y) % 2 ≠ 0 := by
  induction b with
  | zero => simpa using h
  | succ b ih => rw [Nat.pow_succ, Nat.mul_comm (5 ^ b) 5, Nat.mul_assoc]; omega
theorem five_ne {y : Nat} (a : Nat) (h : y % 5 ≠ 0) : (2 ^ a * y) % 5 ≠ 0 := by
  induction a with
  | zero => simpa using h
  | succ a ih => rw [Nat.pow_succ, Nat.mul_comm (2 ^ a) 2, Nat.mul_assoc]; omega
/-- a denominator's twos and fives -/
def PlI (r M d p : Nat) : Prop := ∃ a b, d = 2 ^ a * (5 ^ b * r) ∧ p + max a b = M
structure PlR (r : Nat) : Prop where
  two : r % 2 ≠ 0
  five : r % 5 ≠ 0
theorem pl_two {r a b : Nat} (h : PlR r) : (2 ^ a * (5 ^ b * r)) % 2 = 0 ↔ 0 < a := by
  cases a with
  | zero => have := two_ne b h.two; simp; omega
  | succ a => rw [Nat.pow_succ, Nat.mul_comm (2 ^ a) 2, Nat.mul_assoc]; omega
theorem pl_five {r a b : Nat} (h : PlR r) : (2 ^ a * (5 ^ b * r)) % 5 = 0 ↔ 0 < b := by
  cases b with
  | zero => rw [Nat.pow_zero, Nat.one_mul]; have := five_ne a h.five; omega
  | succ b => rw [Nat.pow_succ, Nat.mul_comm (5 ^ b) 5, Nat.mul_assoc, Nat.mul_left_comm]; omega
theorem pl_gcd {r M d p : Nat} (h : PlR r) (hd : PlI r M d p) (h1 : Nat.gcd d 10 = 1) : d = r ∧ p = M := by
  obtain ⟨a, b, rfl, h2⟩ := hd
  rw [gcd_ten] at h1
  have ha : ¬ 0 < a := fun ha => by
    rw [if_pos (pl_two h |>.2 ha)] at h1
    split at h1 <;> omega
  have hb : ¬ 0 < b := fun hb => by
    rw [if_pos (pl_five h |>.2 hb)] at h1
    split at h1 <;> omega
  obtain rfl : a = 0 := by omega
  obtain rfl : b = 0 := by omega
  simp at h2 ⊢
  exact h2
theorem pl_step {r M d p : Nat} (h : PlR r) (hd : PlI r M d p) (h1 : Nat.gcd d 10 ≠ 1) : PlI r M (d / Nat.gcd d 10) (p + 1) := by
  obtain ⟨a, b, rfl, h2⟩ := hd
  rw [gcd_ten] at *
  have e1 := pl_two (a := a) (b := b) h
  have e2 := pl_five (a := a) (b := b) h
  cases a with
  | zero =>
    rw [if_neg (by rw [e1]; omega)] at *
    cases b with
    | zero => rw [if_neg (by rw [e2]; omega)] at h1; exact absurd rfl h1
    | succ b =>
      rw [if_pos (by rw [e2]; omega)]
      refine ⟨0, b, ?_, by omega⟩
      have : 2 ^ 0 * (5 ^ (b + 1) * r) = 1 * 5 * (2 ^ 0 * (5 ^ b * r)) := by rw [Nat.pow_succ, Nat.pow_zero, Nat.one_mul, Nat.one_mul, Nat.one_mul]; ac_rfl
      rw [this, Nat.mul_div_cancel_left _ (by omega)]
  | succ a =>
    rw [if_pos (by rw [e1]; omega)] at *
    cases b with
    | zero =>
      rw [if_neg (by rw [e2]; omega)]
      exact ⟨a, 0, by rw [Nat.mul_one, Nat.pow_succ, Nat.mul_comm (2 ^ a) 2, Nat.mul_assoc 2, Nat.mul_div_cancel_left _ (by omega)], by omega⟩
    | succ b =>
      rw [if_pos (by rw [e2]; omega)]
      refine ⟨a, b, ?_, by omega⟩
      have : 2 ^ (a + 1) * (5 ^ (b + 1) * r) = 2 * 5 * (2 ^ a * (5 ^ b * r)) := by rw [Nat.pow_succ, Nat.pow_succ]; ac_rfl
      rw [this, Nat.mul_div_cancel_left _ (by omega)]
theorem pl_one {r M p : Nat} (h : PlR r) (hd : PlI r M 1 p) : r = 1 ∧ p = M := by
  obtain ⟨h1, h2⟩ := pl_gcd h hd (by decide)
  exact ⟨h1.symm, h2⟩
theorem pl_ex (d : Nat) : 0 < d → ∃ r a b, PlR r ∧ d = 2 ^ a * (5 ^ b * r) := by
  induction d using Nat.strongRecOn with
  | _ d ih =>
  intro hd
  by_cases h2 : d % 2 = 0
  · obtain ⟨r, a, b, h3, h4⟩ := ih (d / 2) (by omega) (by omega)
    refine ⟨r, a + 1, b, h3, ?_⟩
    rw [Nat.pow_succ, Nat.mul_comm (2 ^ a) 2, Nat.mul_assoc, ← h4]; omega
  by_cases h5 : d % 5 = 0
  · obtain ⟨r, a, b, h3, h4⟩ := ih (d / 5) (by omega) (by omega)
    refine ⟨r, a, b + 1, h3, ?_⟩
    rw [Nat.pow_succ, Nat.mul_comm (5 ^ b) 5, Nat.mul_assoc, Nat.mul_left_comm, ← h4]; omega
  · exact ⟨d, 0, 0, ⟨h2, h5⟩, by simp⟩
theorem pl_le {r a b n : Nat} (h : 2 ^ a * (5 ^ b * r) < 10 ^ n) (hr : 0 < r) : max a b ≤ 4 * n := by
  have h1 : 0 < 5 ^ b * r := Nat.mul_pos (Nat.pow_pos (by omega)) hr
  have h2 : 2 ^ a ≤ 2 ^ a * (5 ^ b * r) := Nat.le_mul_of_pos_right _ h1
  have h3 : 5 ^ b ≤ 5 ^ b * r := Nat.le_mul_of_pos_right _ hr
  have h4 : 5 ^ b * r ≤ 2 ^ a * (5 ^ b * r) := Nat.le_mul_of_pos_left _ (Nat.pow_pos (by omega))
  have h5 : 2 ^ b ≤ 5 ^ b := Nat.pow_le_pow_left (by omega) b
  have key : ∀ k, 2 ^ k < 10 ^ n → k ≤ 4 * n := fun k hk => by
    have h6 : (10 : Nat) ^ n ≤ 2 ^ (4 * n) := by rw [Nat.pow_mul]; exact Nat.pow_le_pow_left (by omega) n
    have h7 : 2 ^ k < 2 ^ (4 * n) := Nat.lt_of_lt_of_le hk h6
    exact Nat.le_of_lt ((Nat.pow_lt_pow_iff_right (by omega)).1 h7)
  have k1 := key a (by omega)
  have k2 := key b (by omega)
  omega
/-- the places suffice -/
theorem pl_dvd (a b : Nat) : 2 ^ a * (5 ^ b * 1) ∣ 10 ^ max a b := by
  refine ⟨2 ^ (max a b - a) * 5 ^ (max a b - b), ?_⟩
  rw [show (10 : Nat) = 2 * 5 from rfl, Nat.mul_pow]
  have h1 : 2 ^ max a b = 2 ^ a * 2 ^ (max a b - a) := by rw [← Nat.pow_add]; congr 1; omega
  have h2 : 5 ^ max a b = 5 ^ b * 5 ^ (max a b - b) := by rw [← Nat.pow_add]; congr 1; omega
  rw [h1, h2]
  generalize 2 ^ (max a b - a) = u
  generalize 5 ^ (max a b - b) = v
  ac_rfl
end ExP
end Go.Proofs.YtfodbfbljeeojaaGreatDoor
namespace Go.Proofs.YtfodbfbljeeojaaGreatDoor
open Go.RowKit
namespace Sym
theorem callX_share {C : Ctx} {dd : Option Nat} {f : FuncId} {args : List SV} {fr : List (Nat × SV)} {rows : List (Nat × Bool × SRow)} {nx n : Nat} {K : St → Prop} (i : Nat) {e : TypeId} {sz g m cap : Nat} {xs : List Value} (ys : List Value) (hi : get rows i = some (true, .blob (OwnS e sz g m cap xs)))
    (hp : ∀ (j : Nat) (v : Value), ys[j]? = some v → xs[j]? = some v) (h : CallX C dd f args ⟨fr, (i, false, .blob (SlF C.base (some ⟨g, 0, none⟩) ys)) :: rows, nx, n⟩ K) : CallX C dd f args ⟨fr, rows, nx, n⟩ K := by
  unfold CallX at h ⊢
  exact ⟨h.1, fun β a w hs => h.2 β a w (hs.share i hi hp)⟩
theorem loop_dup {C : Ctx} {c : Code} {k : List It} {fr : List (Nat × SV)} {rows : List (Nat × Bool × SRow)} {nx n : Nat} (j : Nat) {Φ : Nat → Option Obj → Prop} (hj : get rows j = some (false, .blob Φ))
    (h : LoopN C c k ⟨fr, (nx, false, .blob Φ) :: rows, nx + 1, n⟩) : LoopN C c k ⟨fr, rows, nx, n⟩ := by
  unfold LoopN at h ⊢
  intro β a w hs
  have hm := hs.mem
  obtain ⟨h1, h2⟩ := (hm.row j _ _ hj).1
  exact h _ _ _ (hs.learn (o := false) (b := β j) (Φ := Φ) h1 h2 (fun e => by cases e) (fun i r hi e => hm.inj i j r _ _ hi hj (fun e0 => by subst e0; rw [hi] at hj; cases hj) e.symm))
end Sym
end Go.Proofs.YtfodbfbljeeojaaGreatDoor
namespace Go.Proofs.YtfodbfbljeeojaaGreatDoor
open Go.RowKit
open Sym
attribute [local irreducible] Calls Sym.AggEq ExP.nd ExP.dig ExP.upd
/-- a function that answers with a text, whether there is one, and an error -/
def ShOut (s : List UInt8) (is : Bool) (err : Int) (w : World) (e : Ending) (w' : World) : Prop := e = .returned (.tuple #[.string (bstr s), .bool is, .int .i64 err]) ∧ Below w.heap.size w w'
structure StT where
  d : Nat
  a : Option Addr
  c : Nat
  p : Nat
structure StI (r M : Nat) (t : StT) : Prop where
  pl : ExP.PlI r M t.d t.p
  pos : 0 < t.d
  nd : ExP.nd 1000000000 t.d ≤ 300
  an : t.a = none → t.c = 0
  cn : ExP.nd 1000000000 t.d ≤ t.c
section
variable (f : ExP.Fr) (w : World) (hw : XW w) (hw0 : 0 < w.heap.size) (h1 : f.1.length ≤ 9223372036854775807) (h2 : f.2.length ≤ 9223372036854775807)
include hw0 h1 h2
set_option maxRecDepth 100000 in
set_option maxHeartbeats 4000000 in
theorem shortest_bad (hE : ExP.readE f ≠ 0) :
    Calls Tryz.prog 41 #[frV f] w (ShOut [] false (ExP.readE f) w) := by
  have R1 := fun (w' : World) (h : Below w.heap.size w w') => read_any f w' (Nat.lt_of_lt_of_le hw0 h.size) h1 h2
  rw [ExP.readV_bad rfl hE] at R1
  generalize ExP.readE f = E at *
  obtain ⟨f1, f2⟩ := f
  refine enter env_ok Tryz.func41 rfl Tryz.results41 Tryz.ntmps41 [] [] [.agg [.str f1, .str f2]] (by simp [SV.oks, SV.ok]) (Nat.le_of_ble_eq_true rfl) w _ 1000 ?_
  repeat' (first | ((with_reducible first | show wpS _ _ _ _ | show putD _ _ _ _ | show putW _ _ _ _ | show splitG _ _ _ | show wpQ _ _ _ _ _ _ | show wpD _ _ _ _ _ _ _ | show wpX _ _ _ _ _ _ _ | show expX _ _ _ _ _ _ | show stepX _ _ _ _ | show keepR _ _ _ | show wpY _ _ _ _); conv => whnf) | ((with_reducible show RetN _ _ _); refine retB fun β => ?_) | ((with_reducible show _ ∧ _); first | (apply And.intro; (· intro h; exfalso; first | omega | (revert h; decide)); intro _) | (apply And.intro; rotate_left; (· intro h; exfalso; first | omega | (revert h; decide)); intro _) | (refine ⟨fun _ => ?_, fun _ => ?_⟩) | (apply And.intro; · kernel_rfl) | (apply And.intro; · (show inK _ _; unfold inK; omega)) | (apply And.intro; · (show (_ : Int) ≤ 9223372036854775807; (try simp only [List.length_append, List.length_drop, List.length_take, List.length_cons, List.length_nil]); omega))) | ((with_reducible show AllBe _); refine allBe fun βe => ?_; conv => whnf) | ((with_reducible show bothX _ _); refine bothI ?_ ?_; conv => whnf) | (with_reducible exact trivial) | ((with_reducible show CallN _ _ _ _ _ _ _ _); refine call_of env_ok rfl 1000 ?_) | ((with_reducible show XopN _ _ _ _ _ _); refine xop_of env_ok rfl 1000 ?_) | ((with_reducible show CallX _ _ _ _ _ _); first | (refine callFrE .u32 1000000000 ⟨false, 0, 0⟩ E hw0 (by kernel_rfl) rfl (fun β w' hm => R1 w' hm.below) (fun a1 c1 a2 c2 hcap => ?_))) | ((with_reducible show OpX _ _ _ _); first | fail) | ((with_reducible show ∃ _ : SV, _); first | fail) | ((with_reducible show ∃ _, _); first | fail))
  all_goals first | rfl | (exfalso; simp_all; done)
include hw
set_option maxRecDepth 100000 in
set_option maxHeartbeats 4000000 in
theorem shortest_ok (r a b : Nat) (hr : ExP.PlR r) (hE : ExP.readE f = 0) (hd : (ExP.readN f).d = 2 ^ a * (5 ^ b * r)) :
    Calls Tryz.prog 41 #[frV f] w (ShOut (if r = 1 then ExP.fixT ⟨(ExP.readN f).m, (ExP.readN f).n * 10 ^ max a b / (ExP.readN f).d, 1⟩ (max a b) else []) (decide (r = 1)) 0 w) := by
  have R1 := fun (w' : World) (h : Below w.heap.size w w') => read_any f w' (Nat.lt_of_lt_of_le hw0 h.size) h1 h2
  obtain ⟨q1, q2, q3⟩ := ExP.read_nd hE (b := 1000000000) (by omega)
  obtain ⟨s1, s2, -⟩ := ExP.read_nd hE (b := 10) (by omega)
  rw [ExP.readV_ok hE, hE] at R1
  obtain ⟨i0, hi, hz0, hz1, hz2⟩ := info_parts u32Info
  have hu := Tryz.underlying67
  have hsz := fun w => Tryz.sizeOf97 w
  have hzv := fun w => Tryz.zeroValue97 w
  have hn1 : ExP.nd 1000000000 1 = 1 := ExP.nd_one (by omega)
  have hv1 : nv .u32 1000000000 1 = [.int .u32 1] := nv_one (by omega)
  have hn10 : ExP.nd 1000000000 10 = 1 := ExP.nd_eq (by omega) (by omega) (.inr (by omega))
  have hv10 : nv .u32 1000000000 10 = [.int .u32 10] := by unfold nv ExP.dg; rw [hn10, ExP.dig_self (by omega)]; rfl
  have hr0 : 0 < r := Nat.pos_of_ne_zero fun h => hr.two (by rw [h])
  generalize ExP.readN f = V at *
  obtain ⟨m, n, d0⟩ := V
  dsimp only at *
  have hM : max a b ≤ 4 * 300 := by
    have h3 := ExP.lt_pow_mono (b := 10) (by omega) (ExP.nd_lt (by omega) d0) s2
    rw [hd] at h3
    exact ExP.pl_le h3 hr0
  have hP0 : ExP.PlI r (max a b) d0 0 := ⟨a, b, hd, by omega⟩
  clear hd
  generalize max a b = M at *
  obtain ⟨f1, f2⟩ := f
  refine enter env_ok Tryz.func41 rfl Tryz.results41 Tryz.ntmps41 [] [200015] [.agg [.str f1, .str f2]] (by simp [SV.oks, SV.ok]) (Nat.le_of_ble_eq_true rfl) w _ 1000 ?_
  repeat' (first | ((with_reducible first | show wpS _ _ _ _ | show putD _ _ _ _ | show putW _ _ _ _ | show splitG _ _ _ | show wpQ _ _ _ _ _ _ | show wpD _ _ _ _ _ _ _ | show wpX _ _ _ _ _ _ _ | show expX _ _ _ _ _ _ | show stepX _ _ _ _ | show keepR _ _ _ | show wpY _ _ _ _); conv => whnf) | ((with_reducible show RetN _ _ _); refine retB fun β => ?_) | ((with_reducible show _ ∧ _); first | (apply And.intro; (· intro h; exfalso; first | omega | (revert h; decide)); intro _) | (apply And.intro; rotate_left; (· intro h; exfalso; first | omega | (revert h; decide)); intro _) | (refine ⟨fun _ => ?_, fun _ => ?_⟩) | (apply And.intro; · kernel_rfl) | (apply And.intro; · (show inK _ _; unfold inK; omega)) | (apply And.intro; · (show (_ : Int) ≤ 9223372036854775807; (try simp only [List.length_append, List.length_drop, List.length_take, List.length_cons, List.length_nil]); omega))) | ((with_reducible show AllBe _); refine allBe fun βe => ?_; conv => whnf) | ((with_reducible show bothX _ _); refine bothI ?_ ?_; conv => whnf) | (with_reducible exact trivial) | ((with_reducible show CallN _ _ _ _ _ _ _ _); refine call_of env_ok rfl 1000 ?_) | ((with_reducible show XopN _ _ _ _ _ _); refine xop_of env_ok rfl 1000 ?_) | ((with_reducible show CallX _ _ _ _ _ _); first | (refine callFrE .u32 1000000000 ⟨m, n, d0⟩ 0 hw0 (by kernel_rfl) rfl (fun β w' hm => R1 w' hm.below) (fun a1 c1 a2 c2 hcap => ?_))) | ((with_reducible show OpX _ _ _ _); first | fail) | ((with_reducible show ∃ _ : SV, _); first | fail) | ((with_reducible show ∃ _, _); first | fail))
  all_goals first | (exfalso; simp_all; done) | skip
  refine loop_dup 2 rfl ?_
  refine loop env_ok rfl (T := {t : StT // StI r M t}) (fun t => ⟨[(5, .ptr 3 0), (7, .int .i64 (t.1.p : Nat)), (8, .any (.slice t.1.a (ExP.nd 1000000000 t.1.d) t.1.c))], [(1, false, .blob (SlF w.heap.size a1 (nv .u32 1000000000 n))), (2, false, .blob (SlF w.heap.size a2 (nv .u32 1000000000 d0))), (3, true, .cells 69 [.bool m, .any (.slice a1 (ExP.nd 1000000000 n) c1), .any (.slice a2 (ExP.nd 1000000000 d0) c2)]), (4, false, .blob (SlF w.heap.size t.1.a (nv .u32 1000000000 t.1.d)))], 5, 68⟩) (fun t => t.1.d) ⟨⟨d0, a2, c2, 0⟩, ⟨hP0, q3, q2, hcap.bn, hcap.cd⟩⟩ 1000 [] [200015] (fun _ => by exact Nat.zero_le _) (by dsimp only; ((with_reducible show wk _ _); repeat' (first | exact trivial | exact eqSV_refl _ | (refine eqI ?_) | (refine eqS ?_) | (with_reducible exact rfl) | apply And.intro | exact Nat.zero_lt_one | exact Nat.le_of_ble_eq_true rfl | (with_reducible assumption) | ((show (_ : Int) = _); (try dsimp only); omega) | ((show eqSV _ _); simp [eqSV, isB, bval, *]; done) | rfl)); all_goals exact fun b x h => h) (fun t I hI => ?_)
  obtain ⟨⟨d, sa, sc, p⟩, hpl, hdp, hdn, hda, hdc⟩ := t
  dsimp only at hpl hdp hdn hda hdc ⊢
  have hpM : p ≤ M := by obtain ⟨_, _, _, h⟩ := hpl; omega
  have HO := fun (w' : World) (h : Below w.heap.size w w') hs => one_any sa sc d w' (by omega) hs
  by_cases hd1 : d = 1
  · subst hd1
    obtain ⟨hr1, rfl⟩ := ExP.pl_one hr hpl
    rw [if_pos hr1, decide_eq_true hr1]
    have T1 := fun (w' : World) (h : Below w.heap.size w w') => ten_any p w' (Nat.lt_of_lt_of_le hw0 h.size) (by omega)
    have t1 : ExP.nd 1000000000 (10 ^ p) ≤ p + 1 := Nat.le_trans (ExP.nd_ten (by omega) _) (by omega)
    have t2 := ExP.nd_ten (b := 10) (by omega) p
    have t3 := ExP.nd_mul (b := 1000000000) (x := n) (y := 10 ^ p) (by omega)
    have t4 := ExP.nd_mul (b := 10) (x := n) (y := 10 ^ p) (by omega)
    have t5 := ExP.nd_mono (b := 1000000000) (by omega) (Nat.div_le_self (n * 10 ^ p) d0)
    have t6 := ExP.nd_mono (b := 10) (by omega) (Nat.div_le_self (n * 10 ^ p) d0)
    have M1 := fun ta tc (w' : World) hs ht => times_any a1 ta c1 tc n (10 ^ p) w' (by omega) (by omega) hs ht
    have D1 := fun ta tc (w' : World) (h : Below w.heap.size w w') hs ht => divide_any ta a2 tc c2 (n * 10 ^ p) d0 w' (Nat.lt_of_lt_of_le hw0 h.size) (by omega) (by omega) q3 hs ht
    have F1 := fun (x : FrV) (w' : World) (h : Below w.heap.size w w') => decimal_any x p w' (hw.below h) (by omega)
    have t7 : (Lib.decDigits (n * 10 ^ p / d0)).length ≤ 1000000 := ExP.dec_len (A := 1000000) (by omega) (by omega)
    generalize n * 10 ^ p / d0 = Q at *
    generalize n * 10 ^ p % d0 = Z at *
    generalize n * 10 ^ p = N at *
    generalize 10 ^ p = P at *
    generalize hT : ExP.fixT ⟨m, Q, 1⟩ p = T at *
    repeat' (first | ((with_reducible first | show wpS _ _ _ _ | show putD _ _ _ _ | show putW _ _ _ _ | show splitG _ _ _ | show wpQ _ _ _ _ _ _ | show wpD _ _ _ _ _ _ _ | show wpX _ _ _ _ _ _ _ | show expX _ _ _ _ _ _ | show stepX _ _ _ _ | show keepR _ _ _ | show wpY _ _ _ _); conv => whnf) | ((with_reducible show RetN _ _ _); refine retB fun β => ?_) | ((with_reducible show _ ∧ _); first | (apply And.intro; (· intro h; exfalso; first | omega | (revert h; decide)); intro _) | (apply And.intro; rotate_left; (· intro h; exfalso; first | omega | (revert h; decide)); intro _) | (refine ⟨fun _ => ?_, fun _ => ?_⟩) | (apply And.intro; · kernel_rfl) | (apply And.intro; · (show inK _ _; unfold inK; omega)) | (apply And.intro; · (show (_ : Int) ≤ 9223372036854775807; (try simp only [List.length_append, List.length_drop, List.length_take, List.length_cons, List.length_nil]); omega))) | ((with_reducible show AllBe _); refine allBe fun βe => ?_; conv => whnf) | ((with_reducible show bothX _ _); refine bothI ?_ ?_; conv => whnf) | (with_reducible exact trivial) | ((with_reducible show CallN _ _ _ _ _ _ _ _); refine call_of env_ok rfl 1000 ?_) | ((with_reducible show XopN _ _ _ _ _ _); refine xop_of env_ok rfl 1000 ?_) | ((with_reducible show CallX _ _ _ _ _ _); first | (refine callX (.prop ((1 : Nat) = 1) inferInstance) (by kernel_rfl) rfl (trivial) (fun β w hm => HO w hm.below (hm.slF 4 rfl)) ?_) | (refine callNat .u32 1000000000 P hw0 (by kernel_rfl) rfl (fun β w' hm => T1 w' hm.below) (fun ta tc j1 j2 j3 => ?_)) | (refine callNat .u32 1000000000 N hw0 (by kernel_rfl) rfl (fun β w' hm => M1 ta tc w' (hm.slF 1 rfl) (by first | exact hm.slF 2 rfl | exact hm.slF 3 rfl | exact hm.slF 4 rfl | exact hm.slF 5 rfl | exact hm.slF 6 rfl | exact hm.slF 7 rfl | exact hm.slF 8 rfl | exact hm.slF 9 rfl | exact hm.slF 10 rfl | exact hm.slF 11 rfl)) (fun ua uc k1 k2 k3 => ?_)) | (refine callNat2 .u32 1000000000 Q Z hw0 (by kernel_rfl) rfl (fun β w' hm => D1 ua uc w' hm.below (by first | exact hm.slF 2 rfl | exact hm.slF 3 rfl | exact hm.slF 4 rfl | exact hm.slF 5 rfl | exact hm.slF 6 rfl | exact hm.slF 7 rfl | exact hm.slF 8 rfl | exact hm.slF 9 rfl | exact hm.slF 10 rfl | exact hm.slF 11 rfl) (hm.slF 2 rfl)) (fun u1 v1 u2 v2 m1 m2 m3 m4 m5 m6 => ?_)) | (refine callX (.str T) (by kernel_rfl) rfl (trivial) (fun β w hm => by rw [← hT]; have := F1 ⟨m, Q, 1, u1, v1, some ⟨g1, 0, none⟩, 1⟩ w hm.below (FrIn.of (by first | exact hm.slF 2 rfl | exact hm.slF 3 rfl | exact hm.slF 4 rfl | exact hm.slF 5 rfl | exact hm.slF 6 rfl | exact hm.slF 7 rfl | exact hm.slF 8 rfl | exact hm.slF 9 rfl | exact hm.slF 10 rfl | exact hm.slF 11 rfl) (by rw [hv1]; first | exact (hm.own 9 rfl).1 | exact (hm.own 10 rfl).1) ⟨m1, (fun h => by cases h), m2, by dsimp only; omega⟩) (by dsimp only; omega) (by dsimp only; omega); simp only [FrV.val, FrV.num, hn1] at this; exact this) ?_) | fail) | ((with_reducible show OpX _ _ _ _); first | (refine opx_build1 (sz := 1) rfl rfl rfl (xs := [.int .u32 10]) (fun β => rfl) rfl (by omega) (by omega) hu hsz hzv (fun g1 => ?_)) | (refine opx_build1 (sz := 1) rfl rfl rfl (xs := [.int .u32 1]) (fun β => rfl) rfl (by omega) (by omega) hu hsz hzv (fun g1 => ?_))) | ((with_reducible show ∃ _ : SV, _); first | fail) | ((with_reducible show ∃ _, _); first | fail))
    all_goals first | rfl | (exfalso; omega) | skip
  · have DV := fun g1 (w' : World) (h : 0 < w'.heap.size) hs ht => divide_any sa (some ⟨g1, 0, none⟩) sc 1 d 10 w' h (by omega) (by omega) (by omega) hs ht
    rw [hn10, hv10] at DV
    have HG := fun g1 (w' : World) (h : 0 < w'.heap.size) hs ht => common_any (Lz d sa (Lz 10 (some ⟨g1, 0, none⟩) [])) sa (some ⟨g1, 0, none⟩) sc 1 d 10 w' h (by omega) (by omega) hda hdc (fun h => by cases h) (by omega) (fun h => by unfold Lz; rw [if_neg (by omega)]; exact List.mem_cons_self ..) (fun _ => by unfold Lz; rw [if_neg (by omega), if_neg (by omega)]; exact List.mem_cons_of_mem _ (List.mem_cons_self ..)) hs ht
    rw [hn10] at HG
    have hgp : 0 < Nat.gcd d 10 := Nat.gcd_pos_of_pos_left _ hdp
    have hgd := Nat.gcd_dvd_left d 10
    have hg10 : Nat.gcd d 10 ≤ 10 := Nat.le_of_dvd (by omega) (Nat.gcd_dvd_right d 10)
    have hgn := ExP.nd_mono (b := 1000000000) (by omega) hg10
    have hst := ExP.pl_step hr hpl
    have hno := ExP.pl_gcd hr hpl
    have hq10 : d % 10 = 0 → Nat.gcd d 10 = 10 := fun h => Nat.gcd_eq_right (Nat.dvd_of_mod_eq_zero h)
    obtain ⟨q, hq⟩ : ∃ q, q = d / 10 := ⟨_, rfl⟩
    obtain ⟨rr, hrr⟩ : ∃ rr, rr = d % 10 := ⟨_, rfl⟩
    rw [← hq, ← hrr] at DV
    rw [← hrr] at hq10
    have HZ := fun a c w => zero_any a (ExP.nd 1000000000 rr) c w
    have hz : ((ExP.nd 1000000000 rr : Nat) : Int) = 0 ↔ rr = 0 := by
      have := ExP.nd_pos (b := 1000000000) (x := rr) (by omega)
      omega
    by_cases hr0 : rr = 0
    · have hg := hq10 hr0
      rw [hg, ← hq] at hst
      have hqp : 0 < q := by omega
      have hqn := ExP.nd_mono (b := 1000000000) (x := q) (y := d) (by omega) (by omega)
      repeat' (first | ((with_reducible first | show wpS _ _ _ _ | show putD _ _ _ _ | show putW _ _ _ _ | show splitG _ _ _ | show wpQ _ _ _ _ _ _ | show wpD _ _ _ _ _ _ _ | show wpX _ _ _ _ _ _ _ | show expX _ _ _ _ _ _ | show stepX _ _ _ _ | show keepR _ _ _ | show wpY _ _ _ _); conv => whnf) | ((with_reducible show RetN _ _ _); refine retB fun β => ?_) | ((with_reducible show _ ∧ _); first | (apply And.intro; (· intro h; exfalso; first | omega | (revert h; decide)); intro _) | (apply And.intro; rotate_left; (· intro h; exfalso; first | omega | (revert h; decide)); intro _) | (refine ⟨fun _ => ?_, fun _ => ?_⟩) | (apply And.intro; · kernel_rfl) | (apply And.intro; · (show inK _ _; unfold inK; omega)) | (apply And.intro; · (show (_ : Int) ≤ 9223372036854775807; (try simp only [List.length_append, List.length_drop, List.length_take, List.length_cons, List.length_nil]); omega))) | ((with_reducible show AllBe _); refine allBe fun βe => ?_; conv => whnf) | ((with_reducible show bothX _ _); refine bothI ?_ ?_; conv => whnf) | (with_reducible exact trivial) | ((with_reducible show CallN _ _ _ _ _ _ _ _); refine call_of env_ok rfl 1000 ?_) | ((with_reducible show XopN _ _ _ _ _ _); refine xop_of env_ok rfl 1000 ?_) | ((with_reducible show CallX _ _ _ _ _ _); first | (refine callX (.prop (d = 1) inferInstance) (by kernel_rfl) rfl (trivial) (fun β w hm => HO w hm.below (hm.slF 4 rfl)) ?_) | (refine callNat2 .u32 1000000000 q rr hw0 (by kernel_rfl) rfl (fun β w' hm => DV g1 w' (Nat.lt_of_lt_of_le hw0 hm.base_le) (hm.slF 4 rfl) (by first | exact (hm.own 5 rfl).1 | exact (hm.own 6 rfl).1)) (fun u1 v1 u2 v2 k1 k2 k3 k4 k5 k6 => ?_)) | (refine callX (.prop (((ExP.nd 1000000000 rr : Nat) : Int) = 0) inferInstance) (by kernel_rfl) rfl (trivial) (fun β w hm => HZ u2 v2 w) ?_) | fail) | ((with_reducible show OpX _ _ _ _); first | (refine opx_build1 (sz := 1) rfl rfl rfl (xs := [.int .u32 10]) (fun β => rfl) rfl (by omega) (by omega) hu hsz hzv (fun g1 => ?_)) | (refine opx_build1 (sz := 1) rfl rfl rfl (xs := [.int .u32 1]) (fun β => rfl) rfl (by omega) (by omega) hu hsz hzv (fun g1 => ?_))) | ((with_reducible show ∃ _ : SV, _); first | fail) | ((with_reducible show ∃ _, _); first | fail))
      all_goals first | (exfalso; omega) | skip
      all_goals refine back_copy (Φ := SlF w.heap.size u1 (nv .u32 1000000000 q)) 4 6 rfl rfl rfl (by exact Nat.zero_le _) (by kernel_rfl) ?_
      all_goals exact hI _ ⟨⟨q, u1, v1, p + 1⟩, ⟨hst (by omega), hqp, by dsimp only; omega, k1, k2⟩⟩ (by dsimp only; omega) (by dsimp only; ((with_reducible show wk _ _); repeat' (first | exact trivial | exact eqSV_refl _ | (refine eqI ?_) | (refine eqS ?_) | (with_reducible exact rfl) | apply And.intro | exact Nat.zero_lt_one | exact Nat.le_of_ble_eq_true rfl | (with_reducible assumption) | ((show (_ : Int) = _); (try dsimp only); omega) | ((show eqSV _ _); simp [eqSV, isB, bval, *]; done) | rfl)); all_goals exact fun b x h => h)
    · generalize Nat.gcd d 10 = g at *
      have HOG := fun ga gc (w' : World) hs => one_any ga gc g w' (by omega) hs
      have DG := fun ga gc (w' : World) (h : 0 < w'.heap.size) hs ht => divide_any sa ga sc gc d g w' h (by omega) (by omega) hgp hs ht
      by_cases hg1 : g = 1
      · have hr1 : ¬ r = 1 := fun h => hd1 (by rw [(hno hg1).1]; exact h)
        rw [if_neg hr1, decide_eq_false hr1]
        repeat' (first | ((with_reducible first | show wpS _ _ _ _ | show putD _ _ _ _ | show putW _ _ _ _ | show splitG _ _ _ | show wpQ _ _ _ _ _ _ | show wpD _ _ _ _ _ _ _ | show wpX _ _ _ _ _ _ _ | show expX _ _ _ _ _ _ | show stepX _ _ _ _ | show keepR _ _ _ | show wpY _ _ _ _); conv => whnf) | ((with_reducible show RetN _ _ _); refine retB fun β => ?_) | ((with_reducible show _ ∧ _); first | (apply And.intro; (· intro h; exfalso; first | omega | (revert h; decide)); intro _) | (apply And.intro; rotate_left; (· intro h; exfalso; first | omega | (revert h; decide)); intro _) | (refine ⟨fun _ => ?_, fun _ => ?_⟩) | (apply And.intro; · kernel_rfl) | (apply And.intro; · (show inK _ _; unfold inK; omega)) | (apply And.intro; · (show (_ : Int) ≤ 9223372036854775807; (try simp only [List.length_append, List.length_drop, List.length_take, List.length_cons, List.length_nil]); omega))) | ((with_reducible show AllBe _); refine allBe fun βe => ?_; conv => whnf) | ((with_reducible show bothX _ _); refine bothI ?_ ?_; conv => whnf) | (with_reducible exact trivial) | ((with_reducible show CallN _ _ _ _ _ _ _ _); refine call_of env_ok rfl 1000 ?_) | ((with_reducible show XopN _ _ _ _ _ _); refine xop_of env_ok rfl 1000 ?_) | ((with_reducible show CallX _ _ _ _ _ _); first | (refine callX (.prop (d = 1) inferInstance) (by kernel_rfl) rfl (trivial) (fun β w hm => HO w hm.below (hm.slF 4 rfl)) ?_) | (refine callNat2 .u32 1000000000 q rr hw0 (by kernel_rfl) rfl (fun β w' hm => DV g1 w' (Nat.lt_of_lt_of_le hw0 hm.base_le) (hm.slF 4 rfl) (by first | exact (hm.own 5 rfl).1 | exact (hm.own 6 rfl).1)) (fun u1 v1 u2 v2 k1 k2 k3 k4 k5 k6 => ?_)) | (refine callX (.prop (((ExP.nd 1000000000 rr : Nat) : Int) = 0) inferInstance) (by kernel_rfl) rfl (trivial) (fun β w hm => HZ u2 v2 w) ?_) | (refine callX_share 8 (nv .u32 1000000000 10) rfl (fun i v h => by rw [hv10] at h; exact h) ?_; refine callNatL (Lz d sa (Lz 10 (some ⟨g1, 0, none⟩) [])) .u32 1000000000 g hw0 (by kernel_rfl) rfl (apart_row 4 (Nat.le_of_ble_eq_true rfl) rfl (apart_row 8 (Nat.le_of_ble_eq_true rfl) rfl apart_nil)) (fun β w' hm => HG g1 w' (Nat.lt_of_lt_of_le hw0 hm.base_le) (hm.slF 4 rfl) (hm.slF 8 rfl)) (fun ga gc j1 j2 j3 => ?_)) | (refine callX (.prop (g = 1) inferInstance) (by kernel_rfl) rfl (trivial) (fun β w hm => HOG ga gc w (by first | exact hm.slB 9 rfl | exact hm.slB 10 rfl)) ?_) | fail) | ((with_reducible show OpX _ _ _ _); first | (refine opx_build1 (sz := 1) rfl rfl rfl (xs := [.int .u32 10]) (fun β => rfl) rfl (by omega) (by omega) hu hsz hzv (fun g1 => ?_)) | (refine opx_build1 (sz := 1) rfl rfl rfl (xs := [.int .u32 1]) (fun β => rfl) rfl (by omega) (by omega) hu hsz hzv (fun g1 => ?_))) | ((with_reducible show ∃ _ : SV, _); first | fail) | ((with_reducible show ∃ _, _); first | fail))
        all_goals first | rfl | (exfalso; omega) | skip
      · have hdg : d / g < d := Nat.div_lt_self hdp (by omega)
        have hdg0 : 0 < d / g := Nat.div_pos (Nat.le_of_dvd hdp hgd) hgp
        have hqn := ExP.nd_mono (b := 1000000000) (x := d / g) (y := d) (by omega) (by omega)
        repeat' (first | ((with_reducible first | show wpS _ _ _ _ | show putD _ _ _ _ | show putW _ _ _ _ | show splitG _ _ _ | show wpQ _ _ _ _ _ _ | show wpD _ _ _ _ _ _ _ | show wpX _ _ _ _ _ _ _ | show expX _ _ _ _ _ _ | show stepX _ _ _ _ | show keepR _ _ _ | show wpY _ _ _ _); conv => whnf) | ((with_reducible show RetN _ _ _); refine retB fun β => ?_) | ((with_reducible show _ ∧ _); first | (apply And.intro; (· intro h; exfalso; first | omega | (revert h; decide)); intro _) | (apply And.intro; rotate_left; (· intro h; exfalso; first | omega | (revert h; decide)); intro _) | (refine ⟨fun _ => ?_, fun _ => ?_⟩) | (apply And.intro; · kernel_rfl) | (apply And.intro; · (show inK _ _; unfold inK; omega)) | (apply And.intro; · (show (_ : Int) ≤ 9223372036854775807; (try simp only [List.length_append, List.length_drop, List.length_take, List.length_cons, List.length_nil]); omega))) | ((with_reducible show AllBe _); refine allBe fun βe => ?_; conv => whnf) | ((with_reducible show bothX _ _); refine bothI ?_ ?_; conv => whnf) | (with_reducible exact trivial) | ((with_reducible show CallN _ _ _ _ _ _ _ _); refine call_of env_ok rfl 1000 ?_) | ((with_reducible show XopN _ _ _ _ _ _); refine xop_of env_ok rfl 1000 ?_) | ((with_reducible show CallX _ _ _ _ _ _); first | (refine callX (.prop (d = 1) inferInstance) (by kernel_rfl) rfl (trivial) (fun β w hm => HO w hm.below (hm.slF 4 rfl)) ?_) | (refine callNat2 .u32 1000000000 q rr hw0 (by kernel_rfl) rfl (fun β w' hm => DV g1 w' (Nat.lt_of_lt_of_le hw0 hm.base_le) (hm.slF 4 rfl) (by first | exact (hm.own 5 rfl).1 | exact (hm.own 6 rfl).1)) (fun u1 v1 u2 v2 k1 k2 k3 k4 k5 k6 => ?_)) | (refine callX (.prop (((ExP.nd 1000000000 rr : Nat) : Int) = 0) inferInstance) (by kernel_rfl) rfl (trivial) (fun β w hm => HZ u2 v2 w) ?_) | (refine callX_share 8 (nv .u32 1000000000 10) rfl (fun i v h => by rw [hv10] at h; exact h) ?_; refine callNatL (Lz d sa (Lz 10 (some ⟨g1, 0, none⟩) [])) .u32 1000000000 g hw0 (by kernel_rfl) rfl (apart_row 4 (Nat.le_of_ble_eq_true rfl) rfl (apart_row 8 (Nat.le_of_ble_eq_true rfl) rfl apart_nil)) (fun β w' hm => HG g1 w' (Nat.lt_of_lt_of_le hw0 hm.base_le) (hm.slF 4 rfl) (hm.slF 8 rfl)) (fun ga gc j1 j2 j3 => ?_)) | (refine callX (.prop (g = 1) inferInstance) (by kernel_rfl) rfl (trivial) (fun β w hm => HOG ga gc w (by first | exact hm.slB 9 rfl | exact hm.slB 10 rfl)) ?_) | (refine callNat2 .u32 1000000000 (d / g) (d % g) hw0 (by kernel_rfl) rfl (fun β w' hm => DG ga gc w' (Nat.lt_of_lt_of_le hw0 hm.base_le) (hm.slF 4 rfl) (by first | exact hm.slB 9 rfl | exact hm.slB 10 rfl)) (fun u3 v3 u4 v4 m1 m2 m3 m4 m5 m6 => ?_)) | fail) | ((with_reducible show OpX _ _ _ _); first | (refine opx_build1 (sz := 1) rfl rfl rfl (xs := [.int .u32 10]) (fun β => rfl) rfl (by omega) (by omega) hu hsz hzv (fun g1 => ?_)) | (refine opx_build1 (sz := 1) rfl rfl rfl (xs := [.int .u32 1]) (fun β => rfl) rfl (by omega) (by omega) hu hsz hzv (fun g1 => ?_))) | ((with_reducible show ∃ _ : SV, _); first | fail) | ((with_reducible show ∃ _, _); first | fail))
        all_goals first | (exfalso; omega) | skip
        all_goals refine back_copy (Φ := SlF w.heap.size u3 (nv .u32 1000000000 (d / g))) 4 10 rfl rfl rfl (by exact Nat.zero_le _) (by kernel_rfl) ?_
        all_goals exact hI _ ⟨⟨d / g, u3, v3, p + 1⟩, ⟨hst hg1, hdg0, by dsimp only; omega, m1, m2⟩⟩ hdg (by dsimp only; ((with_reducible show wk _ _); repeat' (first | exact trivial | exact eqSV_refl _ | (refine eqI ?_) | (refine eqS ?_) | (with_reducible exact rfl) | apply And.intro | exact Nat.zero_lt_one | exact Nat.le_of_ble_eq_true rfl | (with_reducible assumption) | ((show (_ : Int) = _); (try dsimp only); omega) | ((show eqSV _ _); simp [eqSV, isB, bval, *]; done) | rfl)); all_goals exact fun b x h => h)
end
end Go.Proofs.YtfodbfbljeeojaaGreatDoor
