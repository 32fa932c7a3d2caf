/- A walk that reckons: calls that answer with several slices of their own making, among others; fractions. Fractions of the program: sums. Fractions of the program: the functions within Add, Sub, Mul and Div. -/
import Derived.Test.YtfodbfbljeeojaaGreatDoorFGE
import Derived.Test.YtfodbfbljeeojaaGreatDoorFGG
import Derived.Test.YtfodbfbljeeojaaGreatDoorFGK
set_option linter.unusedSimpArgs false
set_option linter.unusedVariables false
namespace Go.Proofs.YtfodbfbljeeojaaGreatDoor
open Go.RowKit
namespace Sym
open ExP (nd)
def addR (base : Nat) : Nat → List (Option Addr × List Value) → List (Nat × Bool × SRow) → List (Nat × Bool × SRow)
  | _, [], rows => rows
  | nx, (a, xs) :: r, rows => addR base (nx + 1) r ((nx, false, .blob (SlF base a xs)) :: rows)
theorem Sat.learns {base : Nat} {w0 : Base} {act : Act} {w w' : World} {fr : List (Nat × SV)} {n : Nat} (h0 : 0 < base) (hb : base ≤ w.heap.size) (hb' : w.heap.size ≤ w'.heap.size) : ∀ (l : List (Option Addr × List Value)) (rows : List (Nat × Bool × SRow)) (nx : Nat) (β : Nat → Nat),
    Sat base w0 ⟨fr, rows, nx, n⟩ β act w' → (∀ i r, get rows i = some (true, r) → base ≤ β i ∧ β i < w.heap.size) → (∀ p ∈ l, SlAt p.1 p.2 w' ∧ FreshX p.1 p.2 w) →
    ∃ β', Sat base w0 ⟨fr, addR base nx l rows, nx + l.length, n⟩ β' act w' ∧ ∀ i, i < nx → β' i = β i
  | [], rows, nx, β, hs, _, _ => ⟨β, hs, fun _ _ => rfl⟩
  | (a, xs) :: r, rows, nx, β, hs, ho, hl => by
    obtain ⟨h1, h2⟩ := hl (a, xs) (by simp)
    obtain ⟨b, g1, g2, g3⟩ := h1.toF h2 hb h0 (by omega)
    have hlt : ∀ i o q, get rows i = some (o, q) → i < nx := fun i o q hi => (hs.mem.row i o q hi).2.2.1
    have hs2 := hs.learn (o := false) g2 g3 (fun e => by cases e) (fun i q hi => by have := ho i q hi; omega)
    obtain ⟨β', k1, k2⟩ := Sat.learns h0 hb hb' r _ (nx + 1) _ hs2 (fun i q hi => by
      rw [get_cons] at hi
      by_cases e0 : nx = i
      · rw [if_pos e0] at hi; cases hi
      · rw [if_neg e0] at hi
        have := hlt _ _ _ hi
        rw [if_neg (by omega)]
        exact ho i q hi) (fun p hp => hl p (by simp [hp]))
    refine ⟨β', ?_, fun i hi => ?_⟩
    · have e : nx + ((a, xs) :: r).length = nx + 1 + r.length := by simp only [List.length_cons]; omega
      rw [e]; exact k1
    · rw [k2 i (by omega)]; rw [if_neg (by omega)]
/-- a call that answers with slices of its own making, among others -/
theorem callSls {C : Ctx} {d : Nat} {f : FuncId} {args : List SV} {fr : List (Nat × SV)} {rows : List (Nat × Bool × SRow)} {nx n : Nat} {K : St → Prop} {T : Type}
    (V : T → SV) (L : T → List (Option Addr × List Value)) (h0 : 0 < C.base)
    (he : entersB C.P f = true) (hd : Nat.blt d n = true) (hv : ∀ t, (V t).ok nx) (hc : ∀ β w, Mem C.base C.w0 rows nx β w → Calls C.P f (SV.dens β args).toArray w fun e w' => Below w.heap.size w w' ∧ ∃ t, e = .returned ((V t).den β) ∧ ∀ p ∈ L t, SlAt p.1 p.2 w' ∧ FreshX p.1 p.2 w)
    (h : ∀ t, (∀ p ∈ L t, p.2 ≠ [] → ∃ ad, p.1 = some ad) → K ⟨(d, V t) :: fr, addR C.base nx (L t) rows, nx + (L t).length, n⟩) : CallX C (some d) f args ⟨fr, rows, nx, n⟩ K := by
  unfold CallX
  refine ⟨he, fun β a w hs => (hc β w hs.mem).mono ?_⟩
  rintro e w' ⟨hb, t, rfl, hl⟩
  have hm := hs.mem
  have hs' : Sat C.base C.w0 ⟨fr, rows, nx, n⟩ β a w' := ⟨hs.defers, hs.size, hs.slot, hm.belowNext hb⟩
  obtain ⟨β', k1, k2⟩ := Sat.learns (w := w) h0 hm.base_le hb.size (L t) rows nx β hs' (fun i r hi => ⟨(hm.row i true r hi).2.2.2 rfl, hm.lt i (hm.row i true r hi).2.2.1⟩) hl
  have hs3 := k1.put (d := d) (by simpa [Nat.blt_eq] using hd) (SV.ok_mono (Nat.le_add_right _ _) _ (hv t))
  have e1 : (V t).den β' = (V t).den β := SV.den_ext (n := nx) k2 _ (hv t)
  rw [e1] at hs3
  exact ⟨_, _, _, rfl, h t (fun p hp hx => (hl p hp).1.some hx), hs3⟩
end Sym
open Sym
/-- a fraction as a struct of two slices -/
structure FrV where
  m : Bool
  n : Nat
  d : Nat
  a : Option Addr
  c : Nat
  b : Option Addr
  e : Nat
def FrV.num (x : FrV) : ExP.Num := ⟨x.m, x.n, x.d⟩
def FrV.val (b : Nat) (x : FrV) : Value := .agg #[.bool x.m, .slice x.a (ExP.nd b x.n) x.c, .slice x.b (ExP.nd b x.d) x.e]
def FrV.sv (b : Nat) (x : FrV) : SV := .agg [.bool x.m, .any (.slice x.a (ExP.nd b x.n) x.c), .any (.slice x.b (ExP.nd b x.d) x.e)]
structure FrCap (b : Nat) (x : FrV) : Prop where
  an : x.a = none → x.c = 0
  bn : x.b = none → x.e = 0
  cn : ExP.nd b x.n ≤ x.c
  cd : ExP.nd b x.d ≤ x.e
structure FrIn (k : IntKind) (b : Nat) (x : FrV) (w : World) : Prop where
  sn : SlAt x.a (nv k b x.n) w
  sd : SlAt x.b (nv k b x.d) w
  cap : FrCap b x
theorem FrIn.below {k : IntKind} {b : Nat} {x : FrV} {w w' : World} (h : FrIn k b x w) (hb : Below w.heap.size w w') : FrIn k b x w' := ⟨h.sn.below hb, h.sd.below hb, h.cap⟩
def FrV.L (k : IntKind) (b : Nat) (x : FrV) : List (Option Addr × List Value) := [(x.a, nv k b x.n), (x.b, nv k b x.d)]
/-- a function that answers with a fraction of its own making -/
def FrOut (k : IntKind) (b : Nat) (x : ExP.Num) (w : World) (e : Ending) (w' : World) : Prop :=
  ∃ t : FrV, e = .returned (t.val b) ∧ t.num = x ∧ FrCap b t ∧ (∀ p ∈ t.L k b, SlAt p.1 p.2 w' ∧ FreshX p.1 p.2 w) ∧ Below w.heap.size w w'
/-- with an error -/
def FrOutE (k : IntKind) (b : Nat) (x : ExP.Num) (err : Int) (w : World) (e : Ending) (w' : World) : Prop :=
  ∃ t : FrV, e = .returned (.tuple #[t.val b, .int .i64 err]) ∧ t.num = x ∧ FrCap b t ∧ (∀ p ∈ t.L k b, SlAt p.1 p.2 w' ∧ FreshX p.1 p.2 w) ∧ Below w.heap.size w w'
/-- two of them -/
def FrOutEE (k : IntKind) (b : Nat) (x y : ExP.Num) (err : Int) (w : World) (e : Ending) (w' : World) : Prop :=
  ∃ t u : FrV, e = .returned (.tuple #[t.val b, u.val b, .int .i64 err]) ∧ t.num = x ∧ u.num = y ∧ FrCap b t ∧ FrCap b u ∧ (∀ p ∈ t.L k b ++ u.L k b, SlAt p.1 p.2 w' ∧ FreshX p.1 p.2 w) ∧ Below w.heap.size w w'
section
variable {C : Ctx} {d : Nat} {f : FuncId} {args : List SV} {fr : List (Nat × SV)} {rows : List (Nat × Bool × SRow)} {nx n : Nat} {K : St → Prop}
theorem callFr (k : IntKind) (b : Nat) (x : ExP.Num) (h0 : 0 < C.base)
    (he : entersB C.P f = true) (hd : Nat.blt d n = true) (hc : ∀ β w, Mem C.base C.w0 rows nx β w → Calls C.P f (SV.dens β args).toArray w (FrOut k b x w))
    (h : ∀ a c a2 c2, FrCap b ⟨x.m, x.n, x.d, a, c, a2, c2⟩ → K ⟨(d, .agg [.bool x.m, .any (.slice a (ExP.nd b x.n) c), .any (.slice a2 (ExP.nd b x.d) c2)]) :: fr, (nx + 1, false, .blob (SlF C.base a2 (nv k b x.d))) :: (nx, false, .blob (SlF C.base a (nv k b x.n))) :: rows, nx + 2, n⟩) : CallX C (some d) f args ⟨fr, rows, nx, n⟩ K :=
  callSls (T := {t : FrV // t.num = x ∧ FrCap b t}) (fun t => t.1.sv b) (fun t => t.1.L k b) h0 he hd (fun t => ⟨trivial, rfl, rfl, trivial⟩)
    (fun β w hm => (hc β w hm).mono fun e w' ⟨t, he, h1, h2, h3, h4⟩ => ⟨h4, ⟨t, h1, h2⟩, he, h3⟩)
    (fun t _ => by
      obtain ⟨⟨m, tn, td, a, c, a2, c2⟩, rfl, h2⟩ := t
      exact h a c a2 c2 h2)
theorem callFrE (k : IntKind) (b : Nat) (x : ExP.Num) (err : Int) (h0 : 0 < C.base)
    (he : entersB C.P f = true) (hd : Nat.blt d n = true) (hc : ∀ β w, Mem C.base C.w0 rows nx β w → Calls C.P f (SV.dens β args).toArray w (FrOutE k b x err w))
    (h : ∀ a c a2 c2, FrCap b ⟨x.m, x.n, x.d, a, c, a2, c2⟩ → K ⟨(d, .tup [.agg [.bool x.m, .any (.slice a (ExP.nd b x.n) c), .any (.slice a2 (ExP.nd b x.d) c2)], .int .i64 err]) :: fr, (nx + 1, false, .blob (SlF C.base a2 (nv k b x.d))) :: (nx, false, .blob (SlF C.base a (nv k b x.n))) :: rows, nx + 2, n⟩) : CallX C (some d) f args ⟨fr, rows, nx, n⟩ K :=
  callSls (T := {t : FrV // t.num = x ∧ FrCap b t}) (fun t => .tup [t.1.sv b, .int .i64 err]) (fun t => t.1.L k b) h0 he hd (fun t => ⟨⟨trivial, rfl, rfl, trivial⟩, trivial, trivial⟩)
    (fun β w hm => (hc β w hm).mono fun e w' ⟨t, he, h1, h2, h3, h4⟩ => ⟨h4, ⟨t, h1, h2⟩, he, h3⟩)
    (fun t _ => by
      obtain ⟨⟨m, tn, td, a, c, a2, c2⟩, rfl, h2⟩ := t
      exact h a c a2 c2 h2)
theorem callFrEE (k : IntKind) (b : Nat) (x y : ExP.Num) (err : Int) (h0 : 0 < C.base)
    (he : entersB C.P f = true) (hd : Nat.blt d n = true) (hc : ∀ β w, Mem C.base C.w0 rows nx β w → Calls C.P f (SV.dens β args).toArray w (FrOutEE k b x y err w))
    (h : ∀ a c a2 c2 p q p2 q2, FrCap b ⟨x.m, x.n, x.d, a, c, a2, c2⟩ → FrCap b ⟨y.m, y.n, y.d, p, q, p2, q2⟩ → K ⟨(d, .tup [.agg [.bool x.m, .any (.slice a (ExP.nd b x.n) c), .any (.slice a2 (ExP.nd b x.d) c2)], .agg [.bool y.m, .any (.slice p (ExP.nd b y.n) q), .any (.slice p2 (ExP.nd b y.d) q2)], .int .i64 err]) :: fr,
      (nx + 1 + 1 + 1, false, .blob (SlF C.base p2 (nv k b y.d))) :: (nx + 1 + 1, false, .blob (SlF C.base p (nv k b y.n))) :: (nx + 1, false, .blob (SlF C.base a2 (nv k b x.d))) :: (nx, false, .blob (SlF C.base a (nv k b x.n))) :: rows, nx + 4, n⟩) : CallX C (some d) f args ⟨fr, rows, nx, n⟩ K :=
  callSls (T := {t : FrV × FrV // t.1.num = x ∧ t.2.num = y ∧ FrCap b t.1 ∧ FrCap b t.2}) (fun t => .tup [t.1.1.sv b, t.1.2.sv b, .int .i64 err]) (fun t => t.1.1.L k b ++ t.1.2.L k b) h0 he hd (fun t => ⟨⟨trivial, rfl, rfl, trivial⟩, ⟨trivial, rfl, rfl, trivial⟩, trivial, trivial⟩)
    (fun β w hm => (hc β w hm).mono fun e w' ⟨t, u, he, h1, h2, h3, h4, h5, h6⟩ => ⟨h6, ⟨(t, u), h1, h2, h3, h4⟩, he, h5⟩)
    (fun t _ => by
      obtain ⟨⟨⟨m, tn, td, a, c, a2, c2⟩, ⟨m', tn', td', p, q, p2, q2⟩⟩, rfl, rfl, h2, h3⟩ := t
      exact h a c a2 c2 p q p2 q2 h2 h3)
end
theorem Ls2 {w w' : World} {k : IntKind} {b : Nat} {t : FrV} (h1 : SlAt t.a (nv k b t.n) w') (h2 : FreshX t.a (nv k b t.n) w) (h3 : SlAt t.b (nv k b t.d) w') (h4 : FreshX t.b (nv k b t.d) w) : ∀ p ∈ t.L k b, SlAt p.1 p.2 w' ∧ FreshX p.1 p.2 w := fun p hp => by
  simp only [FrV.L, List.mem_cons, List.not_mem_nil, or_false] at hp
  rcases hp with rfl | rfl
  · exact ⟨h1, h2⟩
  · exact ⟨h3, h4⟩
theorem nv_zero (k : IntKind) (b : Nat) : nv k b 0 = [] := List.eq_nil_of_length_eq_zero (by rw [nv_len, ExP.nd_zero])
theorem Ls0 {w w' : World} {k : IntKind} {b : Nat} {m : Bool} {a a2 : Option Addr} {c c2 : Nat} : ∀ p ∈ (⟨m, 0, 0, a, c, a2, c2⟩ : FrV).L k b, SlAt p.1 p.2 w' ∧ FreshX p.1 p.2 w :=
  Ls2 (by dsimp only; rw [nv_zero]; exact sl_nil _ _) (fun h => (h (nv_zero _ _)).elim) (by dsimp only; rw [nv_zero]; exact sl_nil _ _) (fun h => (h (nv_zero _ _)).elim)
theorem FrCap0 {b : Nat} {m : Bool} : FrCap b ⟨m, 0, 0, none, 0, none, 0⟩ := ⟨fun _ => rfl, fun _ => rfl, Nat.le_of_eq (ExP.nd_zero _), Nat.le_of_eq (ExP.nd_zero _)⟩
end Go.Proofs.YtfodbfbljeeojaaGreatDoor
namespace Go.Proofs.YtfodbfbljeeojaaGreatDoor
open Go.RowKit
open Sym
attribute [local irreducible] Calls Sym.AggEq ExP.nd ExP.dig ExP.upd
set_option maxRecDepth 100000 in
set_option maxHeartbeats 4000000 in
theorem sum_any (x y : FrV) (w : World) (hw0 : 0 < w.heap.size) (hx : FrIn .u32 1000000000 x w) (hy : FrIn .u32 1000000000 y w)
    (hxn : ExP.nd 1000000000 x.n ≤ 1000000) (hxd : ExP.nd 1000000000 x.d ≤ 1000000) (hyn : ExP.nd 1000000000 y.n ≤ 1000000) (hyd : ExP.nd 1000000000 y.d ≤ 1000000) :
    Calls Tryz.prog 49 #[x.val 1000000000, y.val 1000000000] w (FrOut .u32 1000000000 (ExP.sumN x.num y.num) w) := by
  obtain ⟨xm, xn, xd, xa, xc, xb, xe⟩ := x
  obtain ⟨ym, yn, yd, ya, yc, yb, ye⟩ := y
  obtain ⟨hx1, hx2, ⟨hx3, hx4, hx5, hx6⟩⟩ := hx
  obtain ⟨hy1, hy2, ⟨hy3, hy4, hy5, hy6⟩⟩ := hy
  dsimp only [FrV.num, FrV.val] at *
  have T1 := fun (w' : World) (h : Below w.heap.size w w') => times_any xa yb xc ye xn yd w' (by omega) (by omega) (hx1.below h) (hy2.below h)
  have T2 := fun (w' : World) (h : Below w.heap.size w w') => times_any ya xb yc xe yn xd w' (by omega) (by omega) (hy1.below h) (hx2.below h)
  have T3 := fun (w' : World) (h : Below w.heap.size w w') => times_any xb yb xe ye xd yd w' (by omega) (by omega) (hx2.below h) (hy2.below h)
  have m1 := ExP.nd_mul (b := 1000000000) (x := xn) (y := yd) (by omega)
  have m2 := ExP.nd_mul (b := 1000000000) (x := yn) (y := xd) (by omega)
  by_cases hm : xm = ym
  · have hS : ExP.sumN ⟨xm, xn, xd⟩ ⟨ym, yn, yd⟩ = ⟨xm, xn * yd + yn * xd, xd * yd⟩ := by simp [ExP.sumN, hm]
    rw [hS]
    obtain rfl : xm = ym := hm
    refine enter env_ok Tryz.func49 rfl Tryz.results49 Tryz.ntmps49 [] [200001, 200004, 200006, 200007] [.agg [.bool xm, .any (.slice xa (ExP.nd 1000000000 xn) xc), .any (.slice xb (ExP.nd 1000000000 xd) xe)], .agg [.bool xm, .any (.slice ya (ExP.nd 1000000000 yn) yc), .any (.slice yb (ExP.nd 1000000000 yd) ye)]] ⟨⟨trivial, rfl, rfl, trivial⟩, ⟨trivial, rfl, rfl, trivial⟩, trivial⟩ (Nat.le_of_ble_eq_true rfl) w _ 1000 ?_
    repeat' (first | ((with_reducible first | show wpS _ _ _ _ | show putD _ _ _ _ | show putW _ _ _ _ | show splitG _ _ _ | show wpQ _ _ _ _ _ _ | show wpD _ _ _ _ _ _ _ | show wpX _ _ _ _ _ _ _ | show expX _ _ _ _ _ _ | show stepX _ _ _ _ | show keepR _ _ _ | show wpY _ _ _ _); conv => whnf) | ((with_reducible show RetN _ _ _); refine retB fun β => ?_) | ((with_reducible show _ ∧ _); first | (apply And.intro; (· intro h; exfalso; first | omega | (revert h; decide)); intro _) | (apply And.intro; rotate_left; (· intro h; exfalso; first | omega | (revert h; decide)); intro _) | (refine ⟨fun _ => ?_, fun _ => ?_⟩) | (apply And.intro; · kernel_rfl) | (apply And.intro; · (show inK _ _; unfold inK; omega)) | (apply And.intro; · (show (_ : Int) ≤ 9223372036854775807; (try simp only [List.length_append, List.length_drop, List.length_take, List.length_cons, List.length_nil]); omega))) | ((with_reducible show AllBe _); refine allBe fun βe => ?_; conv => whnf) | ((with_reducible show bothX _ _); refine bothI ?_ ?_; conv => whnf) | (with_reducible exact trivial) | ((with_reducible show CallN _ _ _ _ _ _ _ _); refine call_of env_ok rfl 1000 ?_) | ((with_reducible show XopN _ _ _ _ _ _); refine xop_of env_ok rfl 1000 ?_) | ((with_reducible show CallX _ _ _ _ _ _); first | (refine callNat .u32 1000000000 (xn * yd) hw0 (by kernel_rfl) rfl (fun β w' hm => T1 w' hm.below) (fun a1 c1 h1 h2 h3 => ?_)) | (refine callNat .u32 1000000000 (yn * xd) hw0 (by kernel_rfl) rfl (fun β w' hm => T2 w' hm.below) (fun a2 c2 h4 h5 h6 => ?_)) | (refine callNat .u32 1000000000 (xd * yd) hw0 (by kernel_rfl) rfl (fun β w' hm => T3 w' hm.below) (fun a3 c3 h7 h8 h9 => ?_)) | (refine callNat .u32 1000000000 (xn * yd + yn * xd) hw0 (by kernel_rfl) rfl (fun β w' hm => plus_any a1 a2 c1 c2 _ _ w' (by omega) (by omega) (hm.slF 3 rfl) (hm.slF 4 rfl)) (fun a4 c4 h10 h11 h12 => ?_)) | (refine callNat .u32 1000000000 (xn * yd + yn * xd) hw0 (by kernel_rfl) rfl (fun β w' hm => plus_any a1 a2 c1 c2 _ _ w' (by omega) (by omega) (hm.slF 4 rfl) (hm.slF 3 rfl)) (fun a4 c4 h10 h11 h12 => ?_))) | ((with_reducible show OpX _ _ _ _); first | fail) | ((with_reducible show ∃ _ : SV, _); first | (refine ⟨_, ?ok, x_eqBB xm xm true (fun _ => rfl) (fun _ => rfl) (by simp) Tryz.underlying4, ?_⟩; (case ok => exact fun _ _ => trivial))) | ((with_reducible show ∃ _, _); first | fail))
    all_goals first | (exfalso; simp_all; done) | skip
    all_goals refine ret fun β w' hm => ?_
    all_goals exact ⟨⟨_, _, _, a4, c4, a3, c3⟩, rfl, rfl, ⟨h10, h7, h11, h8⟩, Ls2 (hm.slF 6 rfl) (hm.freshF 6 rfl rfl) (hm.slF 5 rfl) (hm.freshF 5 rfl rfl), hm.below⟩
  · by_cases hle : yn * xd ≤ xn * yd
    · have hS : ExP.sumN ⟨xm, xn, xd⟩ ⟨ym, yn, yd⟩ = ⟨xm, xn * yd - yn * xd, xd * yd⟩ := by simp [ExP.sumN, hm, hle]
      rw [hS]
      have hc := (ExP.cmp_sgn 1000000000 (x := xn * yd) (y := yn * xd) (by omega)).1.2 hle
      refine enter env_ok Tryz.func49 rfl Tryz.results49 Tryz.ntmps49 [] [200001, 200004, 200006, 200007] [.agg [.bool xm, .any (.slice xa (ExP.nd 1000000000 xn) xc), .any (.slice xb (ExP.nd 1000000000 xd) xe)], .agg [.bool ym, .any (.slice ya (ExP.nd 1000000000 yn) yc), .any (.slice yb (ExP.nd 1000000000 yd) ye)]] ⟨⟨trivial, rfl, rfl, trivial⟩, ⟨trivial, rfl, rfl, trivial⟩, trivial⟩ (Nat.le_of_ble_eq_true rfl) w _ 1000 ?_
      repeat' (first | ((with_reducible first | show wpS _ _ _ _ | show putD _ _ _ _ | show putW _ _ _ _ | show splitG _ _ _ | show wpQ _ _ _ _ _ _ | show wpD _ _ _ _ _ _ _ | show wpX _ _ _ _ _ _ _ | show expX _ _ _ _ _ _ | show stepX _ _ _ _ | show keepR _ _ _ | show wpY _ _ _ _); conv => whnf) | ((with_reducible show RetN _ _ _); refine retB fun β => ?_) | ((with_reducible show _ ∧ _); first | (apply And.intro; (· intro h; exfalso; first | omega | (revert h; decide)); intro _) | (apply And.intro; rotate_left; (· intro h; exfalso; first | omega | (revert h; decide)); intro _) | (refine ⟨fun _ => ?_, fun _ => ?_⟩) | (apply And.intro; · kernel_rfl) | (apply And.intro; · (show inK _ _; unfold inK; omega)) | (apply And.intro; · (show (_ : Int) ≤ 9223372036854775807; (try simp only [List.length_append, List.length_drop, List.length_take, List.length_cons, List.length_nil]); omega))) | ((with_reducible show AllBe _); refine allBe fun βe => ?_; conv => whnf) | ((with_reducible show bothX _ _); refine bothI ?_ ?_; conv => whnf) | (with_reducible exact trivial) | ((with_reducible show CallN _ _ _ _ _ _ _ _); refine call_of env_ok rfl 1000 ?_) | ((with_reducible show XopN _ _ _ _ _ _); refine xop_of env_ok rfl 1000 ?_) | ((with_reducible show CallX _ _ _ _ _ _); first | (refine callNat .u32 1000000000 (xn * yd) hw0 (by kernel_rfl) rfl (fun β w' hm => T1 w' hm.below) (fun a1 c1 h1 h2 h3 => ?_)) | (refine callNat .u32 1000000000 (yn * xd) hw0 (by kernel_rfl) rfl (fun β w' hm => T2 w' hm.below) (fun a2 c2 h4 h5 h6 => ?_)) | (refine callNat .u32 1000000000 (xd * yd) hw0 (by kernel_rfl) rfl (fun β w' hm => T3 w' hm.below) (fun a3 c3 h7 h8 h9 => ?_)) | (refine callX (.int .i64 (ExP.cmpN 1000000000 (xn * yd) (yn * xd))) (by kernel_rfl) rfl trivial (fun β w' hm => compare_any a1 a2 c1 c2 _ _ w' (by omega) (by omega) (hm.slF 3 rfl) (hm.slF 4 rfl)) ?_) | (refine callX (.int .i64 (ExP.cmpN 1000000000 (xn * yd) (yn * xd))) (by kernel_rfl) rfl trivial (fun β w' hm => compare_any a1 a2 c1 c2 _ _ w' (by omega) (by omega) (hm.slF 4 rfl) (hm.slF 3 rfl)) ?_) | (refine callNat .u32 1000000000 (xn * yd - yn * xd) hw0 (by kernel_rfl) rfl (fun β w' hm => minus_any a1 a2 c1 c2 _ _ w' (by omega) (by omega) hle h1 (hm.slF 3 rfl) (hm.slF 4 rfl)) (fun a4 c4 h10 h11 h12 => ?_)) | (refine callNat .u32 1000000000 (xn * yd - yn * xd) hw0 (by kernel_rfl) rfl (fun β w' hm => minus_any a1 a2 c1 c2 _ _ w' (by omega) (by omega) hle h1 (hm.slF 4 rfl) (hm.slF 3 rfl)) (fun a4 c4 h10 h11 h12 => ?_))) | ((with_reducible show OpX _ _ _ _); first | fail) | ((with_reducible show ∃ _ : SV, _); first | (refine ⟨_, ?ok, x_eqBB xm ym false (fun _ => rfl) (fun _ => rfl) (by simpa using hm) Tryz.underlying4, ?_⟩; (case ok => exact fun _ _ => trivial))) | ((with_reducible show ∃ _, _); first | fail))
      all_goals first | (exfalso; simp_all; done) | skip
      all_goals refine ret fun β w' hm => ?_
      all_goals exact ⟨⟨_, _, _, a4, c4, a3, c3⟩, rfl, rfl, ⟨h10, h7, h11, h8⟩, Ls2 (hm.slF 6 rfl) (hm.freshF 6 rfl rfl) (hm.slF 5 rfl) (hm.freshF 5 rfl rfl), hm.below⟩
    · have hS : ExP.sumN ⟨xm, xn, xd⟩ ⟨ym, yn, yd⟩ = ⟨ym, yn * xd - xn * yd, xd * yd⟩ := by simp [ExP.sumN, hm, hle]
      rw [hS]
      have hc := fun h => hle ((ExP.cmp_sgn 1000000000 (x := xn * yd) (y := yn * xd) (by omega)).1.1 h)
      refine enter env_ok Tryz.func49 rfl Tryz.results49 Tryz.ntmps49 [] [200001, 200004, 200006, 200007] [.agg [.bool xm, .any (.slice xa (ExP.nd 1000000000 xn) xc), .any (.slice xb (ExP.nd 1000000000 xd) xe)], .agg [.bool ym, .any (.slice ya (ExP.nd 1000000000 yn) yc), .any (.slice yb (ExP.nd 1000000000 yd) ye)]] ⟨⟨trivial, rfl, rfl, trivial⟩, ⟨trivial, rfl, rfl, trivial⟩, trivial⟩ (Nat.le_of_ble_eq_true rfl) w _ 1000 ?_
      repeat' (first | ((with_reducible first | show wpS _ _ _ _ | show putD _ _ _ _ | show putW _ _ _ _ | show splitG _ _ _ | show wpQ _ _ _ _ _ _ | show wpD _ _ _ _ _ _ _ | show wpX _ _ _ _ _ _ _ | show expX _ _ _ _ _ _ | show stepX _ _ _ _ | show keepR _ _ _ | show wpY _ _ _ _); conv => whnf) | ((with_reducible show RetN _ _ _); refine retB fun β => ?_) | ((with_reducible show _ ∧ _); first | (apply And.intro; (· intro h; exfalso; first | omega | (revert h; decide)); intro _) | (apply And.intro; rotate_left; (· intro h; exfalso; first | omega | (revert h; decide)); intro _) | (refine ⟨fun _ => ?_, fun _ => ?_⟩) | (apply And.intro; · kernel_rfl) | (apply And.intro; · (show inK _ _; unfold inK; omega)) | (apply And.intro; · (show (_ : Int) ≤ 9223372036854775807; (try simp only [List.length_append, List.length_drop, List.length_take, List.length_cons, List.length_nil]); omega))) | ((with_reducible show AllBe _); refine allBe fun βe => ?_; conv => whnf) | ((with_reducible show bothX _ _); refine bothI ?_ ?_; conv => whnf) | (with_reducible exact trivial) | ((with_reducible show CallN _ _ _ _ _ _ _ _); refine call_of env_ok rfl 1000 ?_) | ((with_reducible show XopN _ _ _ _ _ _); refine xop_of env_ok rfl 1000 ?_) | ((with_reducible show CallX _ _ _ _ _ _); first | (refine callNat .u32 1000000000 (xn * yd) hw0 (by kernel_rfl) rfl (fun β w' hm => T1 w' hm.below) (fun a1 c1 h1 h2 h3 => ?_)) | (refine callNat .u32 1000000000 (yn * xd) hw0 (by kernel_rfl) rfl (fun β w' hm => T2 w' hm.below) (fun a2 c2 h4 h5 h6 => ?_)) | (refine callNat .u32 1000000000 (xd * yd) hw0 (by kernel_rfl) rfl (fun β w' hm => T3 w' hm.below) (fun a3 c3 h7 h8 h9 => ?_)) | (refine callX (.int .i64 (ExP.cmpN 1000000000 (xn * yd) (yn * xd))) (by kernel_rfl) rfl trivial (fun β w' hm => compare_any a1 a2 c1 c2 _ _ w' (by omega) (by omega) (hm.slF 3 rfl) (hm.slF 4 rfl)) ?_) | (refine callX (.int .i64 (ExP.cmpN 1000000000 (xn * yd) (yn * xd))) (by kernel_rfl) rfl trivial (fun β w' hm => compare_any a1 a2 c1 c2 _ _ w' (by omega) (by omega) (hm.slF 4 rfl) (hm.slF 3 rfl)) ?_) | (refine callNat .u32 1000000000 (yn * xd - xn * yd) hw0 (by kernel_rfl) rfl (fun β w' hm => minus_any a2 a1 c2 c1 _ _ w' (by omega) (by omega) (by omega) h4 (hm.slF 4 rfl) (hm.slF 3 rfl)) (fun a4 c4 h10 h11 h12 => ?_)) | (refine callNat .u32 1000000000 (yn * xd - xn * yd) hw0 (by kernel_rfl) rfl (fun β w' hm => minus_any a2 a1 c2 c1 _ _ w' (by omega) (by omega) (by omega) h4 (hm.slF 3 rfl) (hm.slF 4 rfl)) (fun a4 c4 h10 h11 h12 => ?_))) | ((with_reducible show OpX _ _ _ _); first | fail) | ((with_reducible show ∃ _ : SV, _); first | (refine ⟨_, ?ok, x_eqBB xm ym false (fun _ => rfl) (fun _ => rfl) (by simpa using hm) Tryz.underlying4, ?_⟩; (case ok => exact fun _ _ => trivial))) | ((with_reducible show ∃ _, _); first | fail))
      all_goals first | (exfalso; simp_all; done) | skip
      all_goals refine ret fun β w' hm => ?_
      all_goals exact ⟨⟨_, _, _, a4, c4, a3, c3⟩, rfl, rfl, ⟨h10, h7, h11, h8⟩, Ls2 (hm.slF 6 rfl) (hm.freshF 6 rfl rfl) (hm.slF 5 rfl) (hm.freshF 5 rfl rfl), hm.below⟩
end Go.Proofs.YtfodbfbljeeojaaGreatDoor
namespace Go.Proofs.YtfodbfbljeeojaaGreatDoor
open Go.RowKit
open Sym
attribute [local irreducible] Calls Sym.AggEq ExP.nd ExP.dig ExP.upd
set_option maxRecDepth 100000 in
set_option maxHeartbeats 4000000 in
theorem add1_any (x y : FrV) (w : World) (hw0 : 0 < w.heap.size) (hx : FrIn .u32 1000000000 x w) (hy : FrIn .u32 1000000000 y w)
    (hxn : ExP.nd 1000000000 x.n ≤ 1000000) (hxd : ExP.nd 1000000000 x.d ≤ 1000000) (hyn : ExP.nd 1000000000 y.n ≤ 1000000) (hyd : ExP.nd 1000000000 y.d ≤ 1000000) :
    Calls Tryz.prog 48 #[x.val 1000000000, y.val 1000000000] w (FrOutE .u32 1000000000 (ExP.sumN x.num y.num) 0 w) := by
  have S1 := fun (w' : World) (h : Below w.heap.size w w') => sum_any x y w' (Nat.lt_of_lt_of_le hw0 h.size) (hx.below h) (hy.below h) hxn hxd hyn hyd
  have S2 := fun (w' : World) (h : Below w.heap.size w w') => sum_any x ⟨!y.m, y.n, y.d, y.a, y.c, y.b, y.e⟩ w' (Nat.lt_of_lt_of_le hw0 h.size) (hx.below h) ⟨hy.sn.below h, hy.sd.below h, ⟨hy.cap.an, hy.cap.bn, hy.cap.cn, hy.cap.cd⟩⟩ hxn hxd hyn hyd
  obtain ⟨xm, xn, xd, xa, xc, xb, xe⟩ := x
  obtain ⟨ym, yn, yd, ya, yc, yb, ye⟩ := y
  obtain ⟨hx1, hx2, ⟨hx3, hx4, hx5, hx6⟩⟩ := hx
  obtain ⟨hy1, hy2, ⟨hy3, hy4, hy5, hy6⟩⟩ := hy
  dsimp only [FrV.num, FrV.val] at *
  refine enter env_ok Tryz.func48 rfl Tryz.results48 Tryz.ntmps48 [] [] [.agg [.bool xm, .any (.slice xa (ExP.nd 1000000000 xn) xc), .any (.slice xb (ExP.nd 1000000000 xd) xe)], .agg [.bool ym, .any (.slice ya (ExP.nd 1000000000 yn) yc), .any (.slice yb (ExP.nd 1000000000 yd) ye)]] ⟨⟨trivial, rfl, rfl, trivial⟩, ⟨trivial, rfl, rfl, trivial⟩, trivial⟩ (Nat.le_of_ble_eq_true rfl) w _ 1000 ?_
  repeat' (first | ((with_reducible first | show wpS _ _ _ _ | show putD _ _ _ _ | show putW _ _ _ _ | show splitG _ _ _ | show wpQ _ _ _ _ _ _ | show wpD _ _ _ _ _ _ _ | show wpX _ _ _ _ _ _ _ | show expX _ _ _ _ _ _ | show stepX _ _ _ _ | show keepR _ _ _ | show wpY _ _ _ _); conv => whnf) | ((with_reducible show RetN _ _ _); refine retB fun β => ?_) | ((with_reducible show _ ∧ _); first | (apply And.intro; (· intro h; exfalso; first | omega | (revert h; decide)); intro _) | (apply And.intro; rotate_left; (· intro h; exfalso; first | omega | (revert h; decide)); intro _) | (refine ⟨fun _ => ?_, fun _ => ?_⟩) | (apply And.intro; · kernel_rfl) | (apply And.intro; · (show inK _ _; unfold inK; omega)) | (apply And.intro; · (show (_ : Int) ≤ 9223372036854775807; (try simp only [List.length_append, List.length_drop, List.length_take, List.length_cons, List.length_nil]); omega))) | ((with_reducible show AllBe _); refine allBe fun βe => ?_; conv => whnf) | ((with_reducible show bothX _ _); refine bothI ?_ ?_; conv => whnf) | (with_reducible exact trivial) | ((with_reducible show CallN _ _ _ _ _ _ _ _); refine call_of env_ok rfl 1000 ?_) | ((with_reducible show XopN _ _ _ _ _ _); refine xop_of env_ok rfl 1000 ?_) | ((with_reducible show CallX _ _ _ _ _ _); first | (refine callFr .u32 1000000000 (ExP.sumN ⟨xm, xn, xd⟩ ⟨ym, yn, yd⟩) hw0 (by kernel_rfl) rfl (fun β w' hm => S1 w' hm.below) (fun a1 c1 a2 c2 hcap => ?_))) | ((with_reducible show OpX _ _ _ _); first | fail) | ((with_reducible show ∃ _ : SV, _); first | fail) | ((with_reducible show ∃ _, _); first | fail))
  all_goals refine ret fun β w' hm => ?_
  all_goals exact ⟨⟨_, _, _, _, _, _, _⟩, rfl, rfl, hcap, Ls2 (hm.slF 3 rfl) (hm.freshF 3 rfl rfl) (hm.slF 4 rfl) (hm.freshF 4 rfl rfl), hm.below⟩
end Go.Proofs.YtfodbfbljeeojaaGreatDoor
