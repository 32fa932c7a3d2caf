/- The walk's steps behind lemmas whose las -/
import Derived.Test.YtdkhkfdenlabaaaGreatDoorVGF
import Derived.Test.YtdkhkfdenlabaaaGreatDoorVGD
import Derived.Lib.ConvBytes
import Derived.Lib.SmallJoins
import Derived.Laws.BitsLemmas
import Derived.Laws.BitsAllLaws
set_option linter.unusedSimpArgs false
set_option linter.unusedVariables false
set_option maxRecDepth 100000
set_option maxHeartbeats 64000000
namespace Go.Proofs.YtdkhkfdenlabaaaGreatDoor
section
open Go.RowKit
open Sym
attribute [local irreducible] Calls Sym.bM
abbrev BW (w w' : World) : Prop := Below w.heap.size w w'
abbrev QC (f : FuncId) (args : Array Value) (w : World) (v : Value) : Prop := Calls Tryz.prog f args w fun e w' => e = .returned v /\ Below w.heap.size w w'
structure YI (p q : Prop) : Prop where
 go : q -> p
theorem Yi.r {q : Prop} : YI q q := ⟨id⟩
theorem Yi.a {p r A B q : Prop} (n : ¬ p) (k : YI B q) : YI ((p -> A) /\ (r -> B)) q := ⟨fun x => ⟨fun h => absurd h n, fun _ => k.go x⟩⟩
theorem Yi.b {p r A B q : Prop} (n : ¬ r) (k : YI A q) : YI ((p -> A) /\ (r -> B)) q := ⟨fun x => ⟨fun _ => k.go x, fun h => absurd h n⟩⟩
theorem Yi.c {p A q : Prop} (n : p) (k : YI A q) : YI (p /\ A) q := ⟨fun x => ⟨n, k.go x⟩⟩
theorem Yi.d {a : IntKind} {b : Int} {A q : Prop} (n : uu a b) (k : YI A q) : YI (uu a b /\ A) q := ⟨fun x => ⟨n, k.go x⟩⟩
theorem Yi.e {a : Int} {A q : Prop} (n : a <= 9223372036854775807) (k : YI A q) : YI (a <= 9223372036854775807 /\ A) q := ⟨fun x => ⟨n, k.go x⟩⟩
theorem Yi.g {C : Ctx} {all l : List Oper} {k : List It} {dst : Option Nat} {f : FuncId} {args : List SV} {st : St} {q : Prop} (hE : dL C.P C.E) (hres : C.fn.results = C.res.toArray) (h : YI (fE C dst f args st (fun st' => wpS C 1000 (.ops all l :: k) st')) q) : YI (qU C all l k dst f args st) q := ⟨fun x => UA hE hres 1000 (h.go x)⟩
theorem Yi.h {C : Ctx} {all l : List Oper} {k : List It} {o : Oper} {st : St} {q : Prop} (hE : dL C.P C.E) (hres : C.fn.results = C.res.toArray) (h : YI (sZ C o st (fun st' => wpS C 1000 (.ops all l :: k) st')) q) : YI (EX C all l k o st) q := ⟨fun x => X4 hE hres 1000 (h.go x)⟩
theorem Yi.i {p : (Nat -> Nat) -> Prop} : YI (vM p) (∀ β, p β) := ⟨fun h => Ym h⟩
theorem yX {p q : Prop} (h : q) (e : YI p q := by
 first
 | (with_reducible first | show YI (wpS ..) _ | show YI (kF ..) _ | show YI (nH ..) _ | show YI (vz ..) _ | show YI (J6 ..) _ | show YI (Wp ..) _ | show YI (GY ..) _ | show YI (FH ..) _ | show YI (CY ..) _ | show YI (keepR ..) _ | show YI (XT ..) _ | show YI (Ti ..) _); (conv => arg 1; whnf)
 | (apply Yi.a; · first | omega | decide)
 | (apply Yi.b; · first | omega | decide)
 | (apply Yi.c; · kernel_rfl)
 | (apply Yi.d; · (unfold uu; omega))
 | (apply Yi.e; · ((try simp only [List.length_append, List.length_drop, List.length_take, List.length_cons, List.length_nil]); omega))
 | ((with_reducible show YI (qU ..) _); apply Yi.g; (· exact bF); (· rfl))
 | ((with_reducible show YI (EX ..) _); apply Yi.h; (· exact bF); (· rfl))
 | ((with_reducible show YI (vM ..) _); exact Yi.i)
 all_goals repeat' (first
 | (with_reducible first | show YI (wpS ..) _ | show YI (kF ..) _ | show YI (nH ..) _ | show YI (vz ..) _ | show YI (J6 ..) _ | show YI (Wp ..) _ | show YI (GY ..) _ | show YI (FH ..) _ | show YI (CY ..) _ | show YI (keepR ..) _ | show YI (XT ..) _ | show YI (Ti ..) _); (conv => arg 1; whnf)
 | (apply Yi.a; · first | omega | decide)
 | (apply Yi.b; · first | omega | decide)
 | (apply Yi.c; · kernel_rfl)
 | (apply Yi.d; · (unfold uu; omega))
 | (apply Yi.e; · ((try simp only [List.length_append, List.length_drop, List.length_take, List.length_cons, List.length_nil]); omega))
 | ((with_reducible show YI (qU ..) _); apply Yi.g; (· exact bF); (· rfl))
 | ((with_reducible show YI (EX ..) _); apply Yi.h; (· exact bF); (· rfl))
 | ((with_reducible show YI (vM ..) _); exact Yi.i)
 | exact Yi.r)) : p := e.go h
structure YJ (p q r : Prop) : Prop where
 go : q -> r -> p
theorem Yj.x {p q : Prop} (e : YI p q) : YJ p q True := ⟨fun h _ => e.go h⟩
theorem Yj.a {p q : Prop} : YJ (p /\ q) p q := ⟨And.intro⟩
theorem Yj.b {p q : Prop} : YJ (G9 p q) p q := ⟨gK⟩
theorem Yj.c {P : Program} {E : Env} {w0 : World} {fn : Func} {res : List ResultVar} {V : Value} {st : St} {v : SV} {sc sb : List Nat} : YJ (Aw ⟨P, E, w0.heap.size, Base.of w0, fn, res, fun e w' => e = .returned V /\ Below w0.heap.size w0 w', sc, sb⟩ st v) (∀ β, v.den β = V) True := ⟨fun h _ => jO h⟩
theorem yG {p q r : Prop} (h : q) (k : r) (e : YJ p q r := by
 first
 | (apply Yj.x
    (first
     | (with_reducible first | show YI (wpS ..) _ | show YI (kF ..) _ | show YI (nH ..) _ | show YI (vz ..) _ | show YI (J6 ..) _ | show YI (Wp ..) _ | show YI (GY ..) _ | show YI (FH ..) _ | show YI (CY ..) _ | show YI (keepR ..) _ | show YI (XT ..) _ | show YI (Ti ..) _); (conv => arg 1; whnf)
     | (apply Yi.a; · first | omega | decide)
     | (apply Yi.b; · first | omega | decide)
     | (apply Yi.c; · kernel_rfl)
     | (apply Yi.d; · (unfold uu; omega))
     | (apply Yi.e; · ((try simp only [List.length_append, List.length_drop, List.length_take, List.length_cons, List.length_nil]); omega))
     | ((with_reducible show YI (qU ..) _); apply Yi.g; (· exact bF); (· rfl))
     | ((with_reducible show YI (EX ..) _); apply Yi.h; (· exact bF); (· rfl))
     | ((with_reducible show YI (vM ..) _); exact Yi.i))
    all_goals repeat' (first
     | (with_reducible first | show YI (wpS ..) _ | show YI (kF ..) _ | show YI (nH ..) _ | show YI (vz ..) _ | show YI (J6 ..) _ | show YI (Wp ..) _ | show YI (GY ..) _ | show YI (FH ..) _ | show YI (CY ..) _ | show YI (keepR ..) _ | show YI (XT ..) _ | show YI (Ti ..) _); (conv => arg 1; whnf)
     | (apply Yi.a; · first | omega | decide)
     | (apply Yi.b; · first | omega | decide)
     | (apply Yi.c; · kernel_rfl)
     | (apply Yi.d; · (unfold uu; omega))
     | (apply Yi.e; · ((try simp only [List.length_append, List.length_drop, List.length_take, List.length_cons, List.length_nil]); omega))
     | ((with_reducible show YI (qU ..) _); apply Yi.g; (· exact bF); (· rfl))
     | ((with_reducible show YI (EX ..) _); apply Yi.h; (· exact bF); (· rfl))
     | ((with_reducible show YI (vM ..) _); exact Yi.i)
     | exact Yi.r))
 | exact Yj.a
 | exact Yj.b
 | exact Yj.c) : p := e.go h k
theorem yW {p : Prop} (h : p := by ((with_reducible show wk _ _); repeat' (first | exact trivial | exact au _ | (refine eY ?_) | (refine eqS ?_) | (with_reducible exact rfl) | apply And.intro | exact Nat.zero_lt_one | exact Nat.le_of_ble_eq_true rfl | (with_reducible assumption) | ((show (_ : Int) = _); (try dsimp only); omega) | ((show fK _ _); simp [fK, IK, rf, *]; done) | rfl)); all_goals exact fun b x h => h) : p := h
theorem yV {p : Prop} (h : p := by first | exact trivial | exact au _ | (with_reducible exact rfl) | exact Nat.zero_lt_one | exact Nat.le_of_ble_eq_true rfl | (with_reducible assumption) | ((show (_ : Int) = _); (try dsimp only); omega) | ((show fK _ _); simp [fK, IK, rf, *]; done) | rfl) : p := h
theorem yE {f : FuncId} {fn : Func} {c : Code} {res : List ResultVar} {nt : Nat} {R : Ending -> World -> Prop} (hf : Tryz.prog.funcs[f]? = some fn) (hb : fn.body = some c) (hres : fn.results = res.toArray) (hnt : fn.ntmps = nt)
  (sc sb : List Nat) (vs : List SV) (w : World) (h : wpS ⟨Tryz.prog, env, w.heap.size, Base.of w, fn, res, R, sc, sb⟩ 1000 [.code c] ⟨oZ 0 vs, [], 0, nt⟩)
  (hv : SV.oks 0 vs := by first | (simp [SV.oks, SV.ok]; done) | (repeat' (first | exact trivial | rfl | apply And.intro))) (hlen : vs.length <= nt := by exact Nat.le_of_ble_eq_true rfl) :
  Calls Tryz.prog f (SV.aF (fun _ => 0) vs).toArray w R := enter bF hf hb hres hnt sc sb vs hv hlen w R 1000 h
theorem yK {C : Ctx} {d : Nat} {f : FuncId} {args : List SV} {fr : List (Nat × SV)} {rows : List (Nat × Bool × aV)} {nx n : Nat} {K : St -> Prop} (v : SV)
  (hc : ∀ β w, Mem C.base C.w0 rows nx β w -> Calls C.P f (SV.aF β args).toArray w fun e w' => e = .returned (v.den β) /\ Below w.heap.size w w') (h : K ⟨(d, v) :: fr, rows, nx, n⟩)
  (he : dK C.P f = true := by kernel_rfl) (hd : Nat.blt d n = true := by rfl) (hv : v.ok nx := by repeat' (first | exact trivial | rfl | apply And.intro)) : fE C (some d) f args ⟨fr, rows, nx, n⟩ K := Qy v he hd hv hc h
theorem yA {C : Ctx} {d : Nat} {f : FuncId} {args : List SV} {fr : List (Nat × SV)} {rows : List (Nat × Bool × aV)} {nx n : Nat} {K : St -> Prop} (v : SV)
  (hc : ∀ β w, Calls C.P f (SV.aF β args).toArray w fun e w' => e = .returned (v.den β) /\ Below w.heap.size w w') (h : K ⟨(d, v) :: fr, rows, nx, n⟩)
  (he : dK C.P f = true := by kernel_rfl) (hd : Nat.blt d n = true := by rfl) (hv : v.ok nx := by repeat' (first | exact trivial | rfl | apply And.intro)) : fE C (some d) f args ⟨fr, rows, nx, n⟩ K := Qy v he hd hv (fun β w _ => hc β w) h
theorem yB {C : Ctx} {d : Nat} {f : FuncId} {args : List SV} {fr : List (Nat × SV)} {rows : List (Nat × Bool × aV)} {nx n : Nat} {K : St -> Prop} (v : SV)
  (hc : ∀ β w, Below C.base C.w0.w w -> Calls C.P f (SV.aF β args).toArray w fun e w' => e = .returned (v.den β) /\ Below w.heap.size w w') (h : K ⟨(d, v) :: fr, rows, nx, n⟩)
  (he : dK C.P f = true := by kernel_rfl) (hd : Nat.blt d n = true := by rfl) (hv : v.ok nx := by repeat' (first | exact trivial | rfl | apply And.intro)) : fE C (some d) f args ⟨fr, rows, nx, n⟩ K := Qy v he hd hv (fun β w hm => hc β w hm.below) h
theorem yO {C : Ctx} {G : eU} {op : Op} {us : List SV} {v : SV} {K : SV -> Prop} (hx : dH C G op us v) (h : K v)
  (ok : ∀ n, SV.oks n us -> v.ok n := by first | exact fun _ _ => trivial | exact fun _ _ => rfl | exact fun _ h => h.1 | exact fun _ h => h) : ∃ v : SV, (∀ n, SV.oks n us -> v.ok n) /\ dH C G op us v /\ K v := ⟨v, ok, hx, h⟩
theorem yN {C : Ctx} {G : eU} {x y : Operand} {t e : TypeId} {a : Addr} {len cap j sz : Nat} {i : Int} {K : SV -> Prop} (ht : C.P.underlying t = some (.slice e)) (hs : ∀ w, (sizeOf e).run C.P w = .ok sz w) (h : K (.any (.pointer (some (a.add (j * sz))))))
  (hi : i = (j : Nat) := by omega) (hj : j < len := by omega) (ok : ∀ n, SV.oks n [.any (.slice (some a) len cap), .int .i64 i] -> (SV.any (.pointer (some (a.add (j * sz))))).ok n := by exact fun _ _ => rfl) : ∃ v : SV, (∀ n, SV.oks n [.any (.slice (some a) len cap), .int .i64 i] -> v.ok n) /\ dH C G (.indexAddr t x y) [.any (.slice (some a) len cap), .int .i64 i] v /\ K v := ⟨_, ok, GR hi ht hs hj, h⟩
inductive YL (rows : List (Nat × Bool × aV)) (a : Option Addr) (xs : List Value) : Prop
 | f (j : Nat) {o : Bool} {bs : Nat} (h : get rows j = some (o, .aK (bV bs a xs)))
 | b (j : Nat) {o : Bool} (h : get rows j = some (o, .aK (G7 a xs)))
theorem df {base : Nat} {w0 : Base} {rows : List (Nat × Bool × aV)} {nx : Nat} {β : Nat -> Nat} {w : World} (hm : Mem base w0 rows nx β w) {a : Option Addr} {xs : List Value}
  (e : YL rows a xs := by first | exact .f 0 rfl | exact .f 1 rfl | exact .f 2 rfl | exact .f 3 rfl | exact .f 4 rfl | exact .f 5 rfl | exact .f 6 rfl | exact .f 7 rfl | exact .f 8 rfl | exact .f 9 rfl | exact .f 10 rfl | exact .f 11 rfl | exact .f 12 rfl | exact .f 13 rfl | exact .f 14 rfl | exact .f 15 rfl | exact .f 16 rfl | exact .f 17 rfl | exact .f 18 rfl | exact .f 19 rfl | exact .f 20 rfl | exact .f 21 rfl | exact .f 22 rfl | exact .f 23 rfl | exact .f 24 rfl | exact .f 25 rfl | exact .f 26 rfl | exact .f 27 rfl | exact .f 28 rfl | exact .f 29 rfl | exact .f 30 rfl | exact .f 31 rfl | exact .f 32 rfl | exact .b 0 rfl | exact .b 1 rfl | exact .b 2 rfl | exact .b 3 rfl | exact .b 4 rfl | exact .b 5 rfl | exact .b 6 rfl | exact .b 7 rfl | exact .b 8 rfl | exact .b 9 rfl | exact .b 10 rfl | exact .b 11 rfl | exact .b 12 rfl | exact .b 13 rfl | exact .b 14 rfl | exact .b 15 rfl | exact .b 16 rfl | exact .b 17 rfl | exact .b 18 rfl | exact .b 19 rfl | exact .b 20 rfl | exact .b 21 rfl | exact .b 22 rfl | exact .b 23 rfl | exact .b 24 rfl | exact .b 25 rfl | exact .b 26 rfl | exact .b 27 rfl | exact .b 28 rfl | exact .b 29 rfl | exact .b 30 rfl | exact .b 31 rfl | exact .b 32 rfl) : aS a xs w := by
 cases e with
 | f j h => exact hm.dS j h
 | b j h => exact hm.Tz j h
inductive YM (rows : List (Nat × Bool × aV)) (b : Nat) (a : Option Addr) (xs : List Value) : Prop
 | f (j : Nat) {o : Bool} (h : get rows j = some (o, .aK (bV b a xs)))
theorem nS {base : Nat} {w0 : Base} {rows : List (Nat × Bool × aV)} {nx : Nat} {β : Nat -> Nat} {w W : World} (hm : Mem base w0 rows nx β w) {a : Option Addr} {xs : List Value}
  (e : YM rows base a xs := by first | exact .f 0 rfl | exact .f 1 rfl | exact .f 2 rfl | exact .f 3 rfl | exact .f 4 rfl | exact .f 5 rfl | exact .f 6 rfl | exact .f 7 rfl | exact .f 8 rfl | exact .f 9 rfl | exact .f 10 rfl | exact .f 11 rfl | exact .f 12 rfl | exact .f 13 rfl | exact .f 14 rfl | exact .f 15 rfl | exact .f 16 rfl | exact .f 17 rfl | exact .f 18 rfl | exact .f 19 rfl | exact .f 20 rfl | exact .f 21 rfl | exact .f 22 rfl | exact .f 23 rfl | exact .f 24 rfl | exact .f 25 rfl | exact .f 26 rfl | exact .f 27 rfl | exact .f 28 rfl | exact .f 29 rfl | exact .f 30 rfl | exact .f 31 rfl | exact .f 32 rfl) (h : W.heap.size = base := by rfl) : bz a xs W := by
 cases e with
 | f j g => exact hm.di j g h
theorem yZ {C : Ctx} {c : Code} {k : List It} {st : St} {T : Type} (J : T -> St) (μ : T -> Nat) (t0 : T) (sc sb : List Nat)
  (h : ∀ t (I : Act -> World -> Prop), (∀ st' t', μ t' < μ t -> wk st' (J t') -> nV { C with sc := sc, sb := sb } I st') -> wpS { C with sc := sc, sb := sb } 1000 (.code c :: .back I :: k) (J t))
  (h0 : wk st (J t0) := by exact yW) (hn0 : ∀ t, C.w0.n0 <= (J t).next := by exact fun _ => Nat.zero_le _) (hE : dL C.P C.E := by exact bF) (hres : C.fn.results = C.res.toArray := by rfl) : LoopN C c k st :=
 loop hE hres J μ t0 1000 sc sb hn0 h0 h
theorem yJ {C : Ctx} {c : Code} {k : List It} {st : St} {T : Type} (J : T -> St) (sc sb sc' sb' : List Nat)
  (h : ∀ (I : Act -> World -> Prop), (∀ st' t', wk st' (J t') -> nV { C with sc := sc, sb := sb } I st') -> wpS { C with sc := sc, sb := sb } 1000 (.code c :: .back I :: k) st)
  (h2 : ∀ t, wpS { C with sc := sc', sb := sb' } 1000 k (J t)) (hn0 : ∀ t, C.w0.n0 <= (J t).next := by exact fun _ => Nat.zero_le _) (hE : dL C.P C.E := by exact bF) (hres : C.fn.results = C.res.toArray := by rfl) : lN C (.code c :: k) st :=
 join hE hres J 1000 1000 sc sb sc' sb' hn0 h h2
end
section
open Go.RowKit
namespace Sym
open ae (nd)
def WM (base : Nat) : Nat -> List (Option Addr × List Value) -> List (Nat × Bool × aV) -> List (Nat × Bool × aV)
 | _, [], rows => rows
 | nx, (a, xs) :: r, rows => WM base (nx + 1) r ((nx, false, .aK (bV base a xs)) :: rows)
theorem Sat.learns {base : Nat} {w0 : Base} {act : Act} {w w' : World} {fr : List (Nat × SV)} {n : Nat} (h0 : 0 < base) (hb : base <= w.heap.size) (hb' : w.heap.size <= w'.heap.size) : ∀ (l : List (Option Addr × List Value)) (rows : List (Nat × Bool × aV)) (nx : Nat) (β : Nat -> Nat),
  Sat base w0 ⟨fr, rows, nx, n⟩ β act w' -> (∀ i r, get rows i = some (true, r) -> base <= β i /\ β i < w.heap.size) -> (∀ p ∈ l, aS p.1 p.2 w' /\ bz p.1 p.2 w) ->
  ∃ β', Sat base w0 ⟨fr, WM base nx l rows, nx + l.length, n⟩ β' act w' /\ ∀ i, i < nx -> β' i = β i
 | [], rows, nx, β, hs, _, _ => ⟨β, hs, fun _ _ => rfl⟩
 | (a, xs) :: r, rows, nx, β, hs, ho, hl => by
   obtain ⟨h1, h2⟩ := hl (a, xs) (by simp)
   obtain ⟨b, g1, g2, g3⟩ := h1.ZC h2 hb h0 (by omega)
   have hlt : ∀ i o q, get rows i = some (o, q) -> i < nx := fun i o q hi => (hs.mem.row i o q hi).2.2.1
   have hs2 := hs.learn (o := false) g2 g3 (fun e => by cases e) (fun i q hi => by have := ho i q hi; omega)
   obtain ⟨β', k1, k2⟩ := Sat.learns h0 hb hb' r _ (nx + 1) _ hs2 (fun i q hi => by
    rw [aQ] at hi
    by_cases e0 : nx = i
    ·rw [if_pos e0] at hi; cases hi
    ·rw [if_neg e0] at hi
     have := hlt _ _ _ hi
     rw [if_neg (by omega)]
     exact ho i q hi) (fun p hp => hl p (by simp [hp]))
   refine ⟨β', ?_, fun i hi => ?_⟩
   ·have e : nx + ((a, xs) :: r).length = nx + 1 + r.length := by simp only [List.length_cons]; omega
    rw [e]; exact k1
   ·rw [k2 i (by omega)]; rw [if_neg (by omega)]
theorem bT {C : Ctx} {d : Nat} {f : FuncId} {args : List SV} {fr : List (Nat × SV)} {rows : List (Nat × Bool × aV)} {nx n : Nat} {K : St -> Prop} {T : Type}
  (V : T -> SV) (L : T -> List (Option Addr × List Value)) (h0 : 0 < C.base)
  (he : dK C.P f = true) (hd : Nat.blt d n = true) (hv : ∀ t, (V t).ok nx) (hc : ∀ β w, Mem C.base C.w0 rows nx β w -> Calls C.P f (SV.aF β args).toArray w fun e w' => BW w w' /\ ∃ t, e = .returned ((V t).den β) /\ ∀ p ∈ L t, aS p.1 p.2 w' /\ bz p.1 p.2 w)
  (h : ∀ t, (∀ p ∈ L t, p.2 ≠ [] -> ∃ ad, p.1 = some ad) -> K ⟨(d, V t) :: fr, WM C.base nx (L t) rows, nx + (L t).length, n⟩) : fE C (some d) f args ⟨fr, rows, nx, n⟩ K := by
 unfold fE
 refine ⟨he, fun β a w hs => (hc β w hs.mem).mono ?_⟩
 rintro e w' ⟨hb, t, rfl, hl⟩
 have hm := hs.mem
 have hs' : Sat C.base C.w0 ⟨fr, rows, nx, n⟩ β a w' := ⟨hs.defers, hs.size, hs.slot, hm.fG hb⟩
 obtain ⟨β', k1, k2⟩ := Sat.learns (w := w) h0 hm.aU hb.size (L t) rows nx β hs' (fun i r hi => ⟨(hm.row i true r hi).2.2.2 rfl, hm.lt i (hm.row i true r hi).2.2.1⟩) hl
 have hs3 := k1.put (d := d) (by simpa [Nat.blt_eq] using hd) (SV.kT (Nat.le_add_right _ _) _ (hv t))
 have e1 : (V t).den β' = (V t).den β := SV.qo (n := nx) k2 _ (hv t)
 rw [e1] at hs3
 exact ⟨_, _, _, rfl, h t (fun p hp hx => (hl p hp).1.some hx), hs3⟩
end Sym
open Sym
structure bI where
 m : Bool
 n : Nat
 d : Nat
 a : Option Addr
 c : Nat
 b : Option Addr
 e : Nat
def bI.num (x : bI) : ae.Num := ⟨x.m, x.n, x.d⟩
def bI.val (b : Nat) (x : bI) : Value := .agg #[.bool x.m, .slice x.a (ae.nd b x.n) x.c, .slice x.b (ae.nd b x.d) x.e]
def bI.sv (b : Nat) (x : bI) : SV := .agg [.bool x.m, .any (.slice x.a (ae.nd b x.n) x.c), .any (.slice x.b (ae.nd b x.d) x.e)]
structure iw (b : Nat) (x : bI) : Prop where
 an : x.a = none -> x.c = 0
 bn : x.b = none -> x.e = 0
 cn : ae.nd b x.n <= x.c
 cd : ae.nd b x.d <= x.e
structure aX (k : IntKind) (b : Nat) (x : bI) (w : World) : Prop where
 sn : aS x.a (nv k b x.n) w
 sd : aS x.b (nv k b x.d) w
 cap : iw b x
theorem aX.below {k : IntKind} {b : Nat} {x : bI} {w w' : World} (h : aX k b x w) (hb : BW w w') : aX k b x w' := ⟨h.sn.below hb, h.sd.below hb, h.cap⟩
def bI.L (k : IntKind) (b : Nat) (x : bI) : List (Option Addr × List Value) := [(x.a, nv k b x.n), (x.b, nv k b x.d)]
def fF (k : IntKind) (b : Nat) (x : ae.Num) (w : World) (e : Ending) (w' : World) : Prop :=
 ∃ t : bI, e = .returned (t.val b) /\ t.num = x /\ iw b t /\ (∀ p ∈ t.L k b, aS p.1 p.2 w' /\ bz p.1 p.2 w) /\ BW w w'
def iC (k : IntKind) (b : Nat) (x : ae.Num) (err : Int) (w : World) (e : Ending) (w' : World) : Prop :=
 ∃ t : bI, e = .returned (.tuple #[t.val b, .int .i64 err]) /\ t.num = x /\ iw b t /\ (∀ p ∈ t.L k b, aS p.1 p.2 w' /\ bz p.1 p.2 w) /\ BW w w'
def MP (k : IntKind) (b : Nat) (x y : ae.Num) (err : Int) (w : World) (e : Ending) (w' : World) : Prop :=
 ∃ t u : bI, e = .returned (.tuple #[t.val b, u.val b, .int .i64 err]) /\ t.num = x /\ u.num = y /\ iw b t /\ iw b u /\ (∀ p ∈ t.L k b ++ u.L k b, aS p.1 p.2 w' /\ bz p.1 p.2 w) /\ BW w w'
section
variable {C : Ctx} {d : Nat} {f : FuncId} {args : List SV} {fr : List (Nat × SV)} {rows : List (Nat × Bool × aV)} {nx n : Nat} {K : St -> Prop}
theorem dF (k : IntKind) (b : Nat) (x : ae.Num) (h0 : 0 < C.base)
  (he : dK C.P f = true) (hd : Nat.blt d n = true) (hc : ∀ β w, Mem C.base C.w0 rows nx β w -> Calls C.P f (SV.aF β args).toArray w (fF k b x w))
  (h : ∀ a c a2 c2, iw b ⟨x.m, x.n, x.d, a, c, a2, c2⟩ -> K ⟨(d, .agg [.bool x.m, .any (.slice a (ae.nd b x.n) c), .any (.slice a2 (ae.nd b x.d) c2)]) :: fr, (nx + 1, false, .aK (bV C.base a2 (nv k b x.d))) :: (nx, false, .aK (bV C.base a (nv k b x.n))) :: rows, nx + 2, n⟩) : fE C (some d) f args ⟨fr, rows, nx, n⟩ K :=
 bT (T := {t : bI // t.num = x /\ iw b t}) (fun t => t.1.sv b) (fun t => t.1.L k b) h0 he hd (fun t => ⟨trivial, rfl, rfl, trivial⟩)
  (fun β w hm => (hc β w hm).mono fun e w' ⟨t, he, h1, h2, h3, h4⟩ => ⟨h4, ⟨t, h1, h2⟩, he, h3⟩)
  (fun t _ => by
   obtain ⟨⟨m, tn, td, a, c, a2, c2⟩, rfl, h2⟩ := t
   exact h a c a2 c2 h2)
theorem eG (k : IntKind) (b : Nat) (x : ae.Num) (err : Int) (h0 : 0 < C.base)
  (he : dK C.P f = true) (hd : Nat.blt d n = true) (hc : ∀ β w, Mem C.base C.w0 rows nx β w -> Calls C.P f (SV.aF β args).toArray w (iC k b x err w))
  (h : ∀ a c a2 c2, iw b ⟨x.m, x.n, x.d, a, c, a2, c2⟩ -> K ⟨(d, .bg [.agg [.bool x.m, .any (.slice a (ae.nd b x.n) c), .any (.slice a2 (ae.nd b x.d) c2)], .int .i64 err]) :: fr, (nx + 1, false, .aK (bV C.base a2 (nv k b x.d))) :: (nx, false, .aK (bV C.base a (nv k b x.n))) :: rows, nx + 2, n⟩) : fE C (some d) f args ⟨fr, rows, nx, n⟩ K :=
 bT (T := {t : bI // t.num = x /\ iw b t}) (fun t => .bg [t.1.sv b, .int .i64 err]) (fun t => t.1.L k b) h0 he hd (fun t => ⟨⟨trivial, rfl, rfl, trivial⟩, trivial, trivial⟩)
  (fun β w hm => (hc β w hm).mono fun e w' ⟨t, he, h1, h2, h3, h4⟩ => ⟨h4, ⟨t, h1, h2⟩, he, h3⟩)
  (fun t _ => by
   obtain ⟨⟨m, tn, td, a, c, a2, c2⟩, rfl, h2⟩ := t
   exact h a c a2 c2 h2)
theorem Ha (k : IntKind) (b : Nat) (x y : ae.Num) (err : Int) (h0 : 0 < C.base)
  (he : dK C.P f = true) (hd : Nat.blt d n = true) (hc : ∀ β w, Mem C.base C.w0 rows nx β w -> Calls C.P f (SV.aF β args).toArray w (MP k b x y err w))
  (h : ∀ a c a2 c2 p q p2 q2, iw b ⟨x.m, x.n, x.d, a, c, a2, c2⟩ -> iw b ⟨y.m, y.n, y.d, p, q, p2, q2⟩ -> K ⟨(d, .bg [.agg [.bool x.m, .any (.slice a (ae.nd b x.n) c), .any (.slice a2 (ae.nd b x.d) c2)], .agg [.bool y.m, .any (.slice p (ae.nd b y.n) q), .any (.slice p2 (ae.nd b y.d) q2)], .int .i64 err]) :: fr,
   (nx + 1 + 1 + 1, false, .aK (bV C.base p2 (nv k b y.d))) :: (nx + 1 + 1, false, .aK (bV C.base p (nv k b y.n))) :: (nx + 1, false, .aK (bV C.base a2 (nv k b x.d))) :: (nx, false, .aK (bV C.base a (nv k b x.n))) :: rows, nx + 4, n⟩) : fE C (some d) f args ⟨fr, rows, nx, n⟩ K :=
 bT (T := {t : bI × bI // t.1.num = x /\ t.2.num = y /\ iw b t.1 /\ iw b t.2}) (fun t => .bg [t.1.1.sv b, t.1.2.sv b, .int .i64 err]) (fun t => t.1.1.L k b ++ t.1.2.L k b) h0 he hd (fun t => ⟨⟨trivial, rfl, rfl, trivial⟩, ⟨trivial, rfl, rfl, trivial⟩, trivial, trivial⟩)
  (fun β w hm => (hc β w hm).mono fun e w' ⟨t, u, he, h1, h2, h3, h4, h5, h6⟩ => ⟨h6, ⟨(t, u), h1, h2, h3, h4⟩, he, h5⟩)
  (fun t _ => by
   obtain ⟨⟨⟨m, tn, td, a, c, a2, c2⟩, ⟨m', tn', td', p, q, p2, q2⟩⟩, rfl, rfl, h2, h3⟩ := t
   exact h a c a2 c2 p q p2 q2 h2 h3)
end
theorem oK {w w' : World} {k : IntKind} {b : Nat} {t : bI} (h1 : aS t.a (nv k b t.n) w') (h2 : bz t.a (nv k b t.n) w) (h3 : aS t.b (nv k b t.d) w') (h4 : bz t.b (nv k b t.d) w) : ∀ p ∈ t.L k b, aS p.1 p.2 w' /\ bz p.1 p.2 w := fun p hp => by
 simp only [bI.L, List.mem_cons, List.not_mem_nil, or_false] at hp
 rcases hp with rfl | rfl
 ·exact ⟨h1, h2⟩
 ·exact ⟨h3, h4⟩
theorem Aj (k : IntKind) (b : Nat) : nv k b 0 = [] := List.eq_nil_of_length_eq_zero (by rw [jT, ae.aT])
theorem sW {w w' : World} {k : IntKind} {b : Nat} {m : Bool} {a a2 : Option Addr} {c c2 : Nat} : ∀ p ∈ (⟨m, 0, 0, a, c, a2, c2⟩ : bI).L k b, aS p.1 p.2 w' /\ bz p.1 p.2 w :=
 oK (by dsimp only; rw [Aj]; exact qJ _ _) (fun h => (h (Aj _ _)).elim) (by dsimp only; rw [Aj]; exact qJ _ _) (fun h => (h (Aj _ _)).elim)
theorem dM {b : Nat} {m : Bool} : iw b ⟨m, 0, 0, none, 0, none, 0⟩ := ⟨fun _ => rfl, fun _ => rfl, Nat.le_of_eq (ae.aT _), Nat.le_of_eq (ae.aT _)⟩
end
section
open Go.RowKit
namespace Sym
theorem Sat.reserve {base : Nat} {w0 : Base} {β : Nat -> Nat} {a : Act} {w : World} {fr : List (Nat × SV)} {rows : List (Nat × Bool × aV)} {nx n : Nat} (m : Nat) (h0 : 0 < base) (hs : Sat base w0 ⟨fr, rows, nx, n⟩ β a w) :
  Sat base w0 ⟨fr, rows, nx + m, n⟩ (fun q => if q < nx then β q else 0) a w := by
 obtain ⟨h1, h2, h3, h4⟩ := hs
 have hbe : ∀ i, i < nx -> (fun q => if q < nx then β q else 0) i = β i := fun i hi => by dsimp only; rw [if_pos hi]
 refine ⟨h1, h2, fun s v hv => ?_, h4.below, h4.aU, fun i o r hi => ?_, fun q hq => ?_, fun i j r o r' hi hj hji => ?_, Nat.le_trans h4.n0 (Nat.le_add_right _ _), fun q hq => ?_⟩
 ·obtain ⟨k1, k2⟩ := h3 s v hv
  exact ⟨by rw [k1, SV.qo hbe v k2], SV.kT (Nat.le_add_right _ _) v k2⟩
 ·obtain ⟨k1, k2, k3, k4⟩ := h4.row i o r hi
  have k3 : i < nx := k3
  try dsimp only
  rw [if_pos k3]
  exact ⟨oW hbe k2 k1, aV.kT (Nat.le_add_right _ _) r k2, by omega, k4⟩
 ·try dsimp only
  split
  ·exact h4.lt q (by assumption)
  ·have := h4.aU; omega
 ·have ki : i < nx := (h4.row i _ _ hi).2.2.1
  have kj : j < nx := (h4.row j _ _ hj).2.2.1
  try dsimp only
  rw [if_pos ki, if_pos kj]
  exact h4.inj i j r o r' hi hj hji
 ·have h5 : w0.n0 <= nx := h4.n0
  have hq : q < w0.n0 := hq
  try dsimp only
  rw [if_pos (by omega)]; exact h4.ext q hq
theorem iM {C : Ctx} {k : List It} {fr : List (Nat × SV)} {rows : List (Nat × Bool × aV)} {nx n : Nat} (m : Nat) (h0 : 0 < C.base) (h : lN C k ⟨fr, rows, nx + m, n⟩) : lN C k ⟨fr, rows, nx, n⟩ := by
 unfold lN at h ⊢
 exact fun β a w hs => h _ a w (hs.reserve m h0)
def del (j : Nat) : List (Nat × Bool × aV) -> List (Nat × Bool × aV)
 | [] => []
 | (i, x) :: r => match Nat.beq i j with
   | true => del j r
   | false => (i, x) :: del j r
theorem wB {j : Nat} : ∀ (rows : List (Nat × Bool × aV)) (q : Nat), get (del j rows) q = if q = j then none else get rows q
 | [], q => by simp [del, get]
 | (i, x) :: r, q => by
   have ih := wB (j := j) r q
   unfold del
   cases h : Nat.beq i j with
   | true =>
     have := Nat.eq_of_beq_eq_true h
     subst this
     dsimp only
     rw [ih, aQ]
     by_cases e : q = i
     ·rw [if_pos e, if_pos e]
     ·rw [if_neg e, if_neg e, if_neg (fun e' => e e'.symm)]
   | false =>
     have hne := Nat.ne_of_beq_eq_false h
     dsimp only
     rw [aQ, aQ, ih]
     by_cases e : i = q
     ·subst e; rw [if_pos rfl, if_neg hne]; simp
     ·rw [if_neg e]; by_cases e2 : q = j
      ·simp [e2]
      ·simp [e2, e]
theorem Sat.own {base : Nat} {w0 : Base} {β : Nat -> Nat} {a : Act} {w : World} {fr : List (Nat × SV)} {rows : List (Nat × Bool × aV)} {nx n : Nat} (s i j : Nat) {t : TypeId} {cs : List SV} (hs : Sat base w0 ⟨fr, rows, nx, n⟩ β a w)
  (hsl : get fr s = some (.ptr j 0)) (hj : get rows j = some (true, .cells t cs)) (hi : i < nx) (hij : i ≠ j) (hn0 : w0.n0 <= i) (hgi : get rows i = none)
  (hno : (wG i fr || rP i rows) = false) : Sat base w0 ⟨(s, .ptr i 0) :: fr, (i, true, .cells t cs) :: del j rows, nx, n⟩ (fun q => if q = i then β j else β q) a w := by
 obtain ⟨h1, h2, h3, h4⟩ := hs
 simp only [Bool.or_eq_false_iff] at hno
 have hβ : ∀ q, q ≠ i -> (fun q => if q = i then β j else β q) q = β q := fun q hq => by dsimp only; rw [if_neg hq]
 obtain ⟨k1, k2, k3, k4⟩ := h4.row j _ _ hj
 refine ⟨h1, h2, fun s' v hv => ?_, ?_⟩
 ·rw [aQ] at hv
  by_cases e : s = s'
  ·rw [if_pos e] at hv
   cases hv
   subst e
   obtain ⟨e1, e2⟩ := h3 s _ hsl
   refine ⟨?_, hi⟩
   rw [e1]
   simp [SV.den]
  ·rw [if_neg e] at hv
   obtain ⟨e1, e2⟩ := h3 s' v hv
   exact ⟨by rw [e1, rQ hβ v (pI fr hno.1 hv)], e2⟩
 refine ⟨h4.below, h4.aU, fun q o r hq => ?_, fun q hq => ?_, fun q p r o r' hq hp hpq => ?_, h4.n0, fun q hq => ?_⟩
 ·rw [aQ] at hq
  by_cases e : i = q
  ·rw [if_pos e] at hq
   cases hq
   subst e
   try dsimp only
   rw [if_pos rfl]
   refine ⟨?_, k2, hi, k4⟩
   simp only [gU] at k1 ⊢; rw [jd hβ cs (kz rows hno.2 hj)]; exact k1
  ·rw [if_neg e, wB] at hq
   split at hq
   ·cases hq
   obtain ⟨m1, m2, m3, m4⟩ := h4.row q o r hq
   try dsimp only
   rw [if_neg (fun e' => e e'.symm)]
   refine ⟨?_, m2, m3, m4⟩
   cases r with
   | cells t cs => simp only [gU] at m1 ⊢; rw [jd hβ cs (kz rows hno.2 hq)]; exact m1
   | aK Φ => exact m1
 ·have hq : q < nx := hq
  try dsimp only
  split
  ·exact h4.lt j k3
  ·exact h4.lt q hq
 ·rw [aQ] at hq hp
  by_cases e : i = q
  ·rw [if_neg (fun e' => hpq (e'.symm.trans e)), wB] at hp
   split at hp
   ·cases hp
   rename_i hpj
   try dsimp only
   rw [if_pos e.symm, if_neg (fun e' => hpq (e'.trans e))]
   exact h4.inj j p _ o r' hj hp hpj
  ·rw [if_neg e, wB] at hq
   split at hq
   ·cases hq
   rename_i hqj
   have e' : ¬ q = i := fun e' => e e'.symm
   try dsimp only
   rw [if_neg e']
   by_cases e2 : i = p
   ·rw [if_pos e2.symm]
    exact h4.inj q j r _ _ hq hj (fun e3 => hqj e3.symm)
   ·rw [if_neg e2, wB] at hp
    split at hp
    ·cases hp
    have e4 : ¬ p = i := fun e' => e2 e'.symm
    rw [if_neg e4]
    exact h4.inj q p r o r' hq hp hpq
 ·have hq : q < w0.n0 := hq
  try dsimp only
  rw [if_neg (by omega)]; exact h4.ext q hq
def NI : List (Nat × Bool × aV) -> Nat -> Bool
 | [], _ => true
 | (i, _) :: r, q => !Nat.beq i q && NI r q
theorem Ee : ∀ (rows : List (Nat × Bool × aV)) (q : Nat), NI rows q = true -> get rows q = none
 | [], _, _ => rfl
 | (i, x) :: r, q, h => by
   simp only [NI, Bool.and_eq_true, Bool.not_eq_true'] at h
   rw [aQ, if_neg (Nat.ne_of_beq_eq_false h.1)]
   exact Ee r q h.2
theorem qY {C : Ctx} {I : Act -> World -> Prop} {fr : List (Nat × SV)} {rows : List (Nat × Bool × aV)} {nx n : Nat} (s i : Nat) {j : Nat} {t : TypeId} {cs : List SV}
  (hsl : get fr s = some (.ptr j 0)) (hj : get rows j = some (true, .cells t cs)) (hb : (Nat.blt i nx && (!Nat.beq i j && (NI rows i && (!wG i fr && !rP i rows)))) = true) (hn0 : C.w0.n0 <= i)
  (h : nV C I ⟨(s, .ptr i 0) :: fr, (i, true, .cells t cs) :: del j rows, nx, n⟩) : nV C I ⟨fr, rows, nx, n⟩ := by
 simp only [Bool.and_eq_true, Bool.not_eq_true'] at hb
 obtain ⟨b1, b2, b3, b4, b5⟩ := hb
 unfold nV at h ⊢
 intro β a w hs
 exact h _ a w (hs.own s i j hsl hj (by simpa [Nat.blt_eq] using b1) (Nat.ne_of_beq_eq_false b2) hn0 (Ee _ _ b3) (by rw [b4, b5]; rfl))
end Sym
end
section
open Go.RowKit
namespace Sym
open ae (nd)
theorem Sat.RH {base : Nat} {w0 : Base} {act : Act} {w w' : World} {fr : List (Nat × SV)} {n nx : Nat} {rows : List (Nat × Bool × aV)} {β : Nat -> Nat} {a : Option Addr} {xs : List Value} (h0 : 0 < base) (hb : base <= w.heap.size) (hb' : w.heap.size <= w'.heap.size)
  (hs : Sat base w0 ⟨fr, rows, nx, n⟩ β act w') (ho : ∀ i r, get rows i = some (true, r) -> base <= β i /\ β i < w.heap.size) (hsl : aS a xs w') (hf : bz a xs w \/ ∀ ad, a = some ad -> ∀ i r, get rows i = some (true, r) -> β i ≠ ad.block) :
  ∃ q, Sat base w0 ⟨fr, (nx, false, .aK (G7 a xs)) :: rows, nx + 1, n⟩ (fun i => if i = nx then q else β i) act w' := by
 have hex : ∃ q, q < w'.heap.size /\ G7 a xs q w'.heap[q]? /\ ∀ i r, get rows i = some (true, r) -> β i ≠ q := by
  cases xs with
  | nil => exact ⟨0, by omega, fun _ _ i v hi => by simp at hi, fun i r hi => by have := (ho i r hi).1; omega⟩
  | cons y r =>
    obtain ⟨ad, e, h1, _⟩ := hsl 0 y rfl
    refine ⟨ad.block, h1, fun W hW i v hi => ?_, fun i r hi => ?_⟩
    ·obtain ⟨ad', e', h2, h3⟩ := hsl i v hi
     rw [e] at e'
     cases e'
     exact ⟨ad, e, rfl, by rw [World.cell?_of_block (w := w') (by rw [add_block]; exact hW)]; exact h3⟩
    ·rcases hf with hf | hf
     ·have := hf (by simp) ad e
      have := (ho i r hi).2
      omega
     ·exact hf ad e i r hi
 obtain ⟨q, h2, h3, h4⟩ := hex
 exact ⟨q, hs.learn (o := false) h2 h3 (fun e => by cases e) h4⟩
end Sym
open Sym
def vN (L : List (Option Addr)) (k : IntKind) (b : Nat) (x : ae.Num) (w : World) (e : Ending) (w' : World) : Prop :=
 ∃ t : bI, e = .returned (t.val b) /\ t.num = x /\ iw b t /\ (∀ p ∈ t.L k b, aS p.1 p.2 w' /\ (bz p.1 p.2 w \/ p.1 ∈ L)) /\ BW w w'
theorem Ac {C : Ctx} {d : Nat} {f : FuncId} {args : List SV} {fr : List (Nat × SV)} {rows : List (Nat × Bool × aV)} {nx n : Nat} {K : St -> Prop} (L : List (Option Addr)) (k : IntKind) (b : Nat) (x : ae.Num) (h0 : 0 < C.base)
  (he : dK C.P f = true) (hd : Nat.blt d n = true) (hL : ApartL C L rows nx) (hc : ∀ β w, Mem C.base C.w0 rows nx β w -> Calls C.P f (SV.aF β args).toArray w (vN L k b x w))
  (h : ∀ a c a2 c2, iw b ⟨x.m, x.n, x.d, a, c, a2, c2⟩ -> K ⟨(d, .agg [.bool x.m, .any (.slice a (ae.nd b x.n) c), .any (.slice a2 (ae.nd b x.d) c2)]) :: fr, (nx + 1, false, .aK (G7 a2 (nv k b x.d))) :: (nx, false, .aK (G7 a (nv k b x.n))) :: rows, nx + 2, n⟩) : fE C (some d) f args ⟨fr, rows, nx, n⟩ K := by
 unfold fE
 refine ⟨he, fun β act w hs => (hc β w hs.mem).mono ?_⟩
 rintro e w' ⟨⟨m, tn, td, a, c, a2, c2⟩, rfl, rfl, hcap, hl, hb⟩
 have hm := hs.mem
 have hs' : Sat C.base C.w0 ⟨fr, rows, nx, n⟩ β act w' := ⟨hs.defers, hs.size, hs.slot, hm.fG hb⟩
 have hbl := hm.aU
 have ho : ∀ i r, get rows i = some (true, r) -> C.base <= β i /\ β i < w.heap.size := fun i r hi => ⟨(hm.row i true r hi).2.2.2 rfl, hm.lt i (hm.row i true r hi).2.2.1⟩
 have hlt : ∀ i o q, get rows i = some (o, q) -> i < nx := fun i o q hi => (hm.row i o q hi).2.2.1
 obtain ⟨g1, g2⟩ := hl (a, nv k b tn) (by simp [bI.L])
 obtain ⟨g3, g4⟩ := hl (a2, nv k b td) (by simp [bI.L])
 obtain ⟨p1, k1⟩ := hs'.RH h0 hbl hb.size ho g1 (g2.imp id (fun hi ad e i r hr => hL β w hm ad (by rw [<- e]; exact hi) i r hr))
 have ho2 : ∀ i r, get ((nx, false, aV.aK (G7 a (nv k b tn))) :: rows) i = some (true, r) -> get rows i = some (true, r) /\ i < nx := fun i r hi => by
  rw [aQ] at hi
  by_cases e0 : nx = i
  ·rw [if_pos e0] at hi; cases hi
  ·rw [if_neg e0] at hi; exact ⟨hi, hlt _ _ _ hi⟩
 obtain ⟨p2, k2⟩ := k1.RH (w := w) h0 hbl hb.size (fun i r hi => by
  obtain ⟨hi, hin⟩ := ho2 i r hi
  rw [if_neg (by omega)]; exact ho i r hi) g3 (g4.imp id (fun hi ad e i r hr => by
  obtain ⟨hr, hrn⟩ := ho2 i r hr
  rw [if_neg (by omega)]
  exact hL β w hm ad (by rw [<- e]; exact hi) i r hr))
 have hs3 := k2.put (d := d) (by simpa [Nat.blt_eq] using hd) (v := .agg [.bool m, .any (.slice a (ae.nd b tn) c), .any (.slice a2 (ae.nd b td) c2)]) ⟨trivial, rfl, rfl, trivial⟩
 exact ⟨_, _, _, rfl, h a c a2 c2 hcap, hs3⟩
theorem Ui {w w' : World} {k : IntKind} {b : Nat} {t : bI} {L : List (Option Addr)} (h1 : aS t.a (nv k b t.n) w') (h2 : bz t.a (nv k b t.n) w \/ t.a ∈ L) (h3 : aS t.b (nv k b t.d) w') (h4 : bz t.b (nv k b t.d) w \/ t.b ∈ L) : ∀ p ∈ t.L k b, aS p.1 p.2 w' /\ (bz p.1 p.2 w \/ p.1 ∈ L) := fun p hp => by
 simp only [bI.L, List.mem_cons, List.not_mem_nil, or_false] at hp
 rcases hp with rfl | rfl
 ·exact ⟨h1, h2⟩
 ·exact ⟨h3, h4⟩
end
section
open Go.RowKit
namespace Sym
open ae (nd)
theorem Sat.Lc {base : Nat} {w0 : Base} {act : Act} {w w' : World} {fr : List (Nat × SV)} {n nx : Nat} {rows : List (Nat × Bool × aV)} {β : Nat -> Nat} {a : Option Addr} {xs : List Value} (h0 : 0 < base) (hb : base <= w.heap.size) (hb' : w.heap.size <= w'.heap.size)
  (hs : Sat base w0 ⟨fr, rows, nx, n⟩ β act w') (ho : ∀ i r, get rows i = some (true, r) -> base <= β i /\ β i < w.heap.size) (hsl : aS a xs w') (hf : bz a xs w \/ ∀ ad, a = some ad -> base <= ad.block /\ ∀ i r, get rows i = some (true, r) -> β i ≠ ad.block) :
  ∃ q, Sat base w0 ⟨fr, (nx, false, .aK (bV base a xs)) :: rows, nx + 1, n⟩ (fun i => if i = nx then q else β i) act w' := by
 have hex : ∃ q, q < w'.heap.size /\ bV base a xs q w'.heap[q]? /\ ∀ i r, get rows i = some (true, r) -> β i ≠ q := by
  cases xs with
  | nil => exact ⟨0, by omega, ⟨fun _ _ i v hi => by simp at hi, fun h => absurd rfl h⟩, fun i r hi => by have := (ho i r hi).1; omega⟩
  | cons y r =>
    obtain ⟨ad, e, h1, _⟩ := hsl 0 y rfl
    refine ⟨ad.block, h1, ⟨fun W hW i v hi => ?_, fun _ => ?_⟩, fun i r hi => ?_⟩
    ·obtain ⟨ad', e', h2, h3⟩ := hsl i v hi
     rw [e] at e'
     cases e'
     exact ⟨ad, e, rfl, by rw [World.cell?_of_block (w := w') (by rw [add_block]; exact hW)]; exact h3⟩
    ·rcases hf with hf | hf
     ·have := hf (by simp) ad e
      omega
     ·exact (hf ad e).1
    ·rcases hf with hf | hf
     ·have := hf (by simp) ad e
      have := (ho i r hi).2
      omega
     ·exact (hf ad e).2 i r hi
 obtain ⟨q, h2, h3, h4⟩ := hex
 exact ⟨q, hs.learn (o := false) h2 h3 (fun e => by cases e) h4⟩
def Uk (C : Ctx) (L : List (Option Addr)) (rows : List (Nat × Bool × aV)) (nx : Nat) : Prop := ∀ β w, Mem C.base C.w0 rows nx β w -> ∀ ad, some ad ∈ L -> C.base <= ad.block /\ ∀ i r, get rows i = some (true, r) -> β i ≠ ad.block
theorem Ai {C : Ctx} {rows : List (Nat × Bool × aV)} {nx : Nat} : Uk C [] rows nx := fun _ _ _ _ h => by cases h
theorem oz {C : Ctx} {L : List (Option Addr)} {rows : List (Nat × Bool × aV)} {nx : Nat} {a : Option Addr} {k : IntKind} {b x : Nat} (j : Nat) (hb : 2 <= b) (hj : get rows j = some (false, .aK (bV C.base a (nv k b x)))) (h : Uk C L rows nx) : Uk C (Lz x a L) rows nx := by
 intro β w hm ad hL
 refine ⟨?_, fun i r hi => cu j hb hj (fun β w hm ad hL i r hi => (h β w hm ad hL).2 i r hi) β w hm ad hL i r hi⟩
 unfold Lz at hL
 split at hL
 ·exact (h β w hm ad hL).1
 rename_i hx
 rcases List.mem_cons.1 hL with e | hL
 ·subst e
  obtain ⟨-, hB, hF⟩ := (hm.row j _ _ hj).1
  have hne : nv k b x ≠ [] := fun h0 => by
   have h1 := jT k b x
   have h2 := (ae.fM (b := b) (x := x) hb).2 (Nat.pos_of_ne_zero hx)
   rw [h0] at h1
   simp at h1
   omega
  obtain ⟨ad', e1, e2, -⟩ := hB w rfl 0 _ (eQ ((ae.fM hb).2 (Nat.pos_of_ne_zero hx)))
  cases e1
  rw [e2]
  exact hF hne
 ·exact (h β w hm ad hL).1
end Sym
open Sym
theorem Ad {C : Ctx} {d : Nat} {f : FuncId} {args : List SV} {fr : List (Nat × SV)} {rows : List (Nat × Bool × aV)} {nx n : Nat} {K : St -> Prop} (L : List (Option Addr)) (k : IntKind) (b : Nat) (x : ae.Num) (h0 : 0 < C.base)
  (he : dK C.P f = true) (hd : Nat.blt d n = true) (hL : Uk C L rows nx) (hc : ∀ β w, Mem C.base C.w0 rows nx β w -> Calls C.P f (SV.aF β args).toArray w (vN L k b x w))
  (h : ∀ a c a2 c2, iw b ⟨x.m, x.n, x.d, a, c, a2, c2⟩ -> K ⟨(d, .agg [.bool x.m, .any (.slice a (ae.nd b x.n) c), .any (.slice a2 (ae.nd b x.d) c2)]) :: fr, (nx + 1, false, .aK (bV C.base a2 (nv k b x.d))) :: (nx, false, .aK (bV C.base a (nv k b x.n))) :: rows, nx + 2, n⟩) : fE C (some d) f args ⟨fr, rows, nx, n⟩ K := by
 unfold fE
 refine ⟨he, fun β act w hs => (hc β w hs.mem).mono ?_⟩
 rintro e w' ⟨⟨m, tn, td, a, c, a2, c2⟩, rfl, rfl, hcap, hl, hb⟩
 have hm := hs.mem
 have hs' : Sat C.base C.w0 ⟨fr, rows, nx, n⟩ β act w' := ⟨hs.defers, hs.size, hs.slot, hm.fG hb⟩
 have hbl := hm.aU
 have ho : ∀ i r, get rows i = some (true, r) -> C.base <= β i /\ β i < w.heap.size := fun i r hi => ⟨(hm.row i true r hi).2.2.2 rfl, hm.lt i (hm.row i true r hi).2.2.1⟩
 have hlt : ∀ i o q, get rows i = some (o, q) -> i < nx := fun i o q hi => (hm.row i o q hi).2.2.1
 obtain ⟨g1, g2⟩ := hl (a, nv k b tn) (by simp [bI.L])
 obtain ⟨g3, g4⟩ := hl (a2, nv k b td) (by simp [bI.L])
 obtain ⟨p1, k1⟩ := hs'.Lc h0 hbl hb.size ho g1 (g2.imp id (fun hi ad e => hL β w hm ad (by rw [<- e]; exact hi)))
 have ho2 : ∀ i r, get ((nx, false, aV.aK (bV C.base a (nv k b tn))) :: rows) i = some (true, r) -> get rows i = some (true, r) /\ i < nx := fun i r hi => by
  rw [aQ] at hi
  by_cases e0 : nx = i
  ·rw [if_pos e0] at hi; cases hi
  ·rw [if_neg e0] at hi; exact ⟨hi, hlt _ _ _ hi⟩
 obtain ⟨p2, k2⟩ := k1.Lc (w := w) h0 hbl hb.size (fun i r hi => by
  obtain ⟨hi, hin⟩ := ho2 i r hi
  rw [if_neg (by omega)]; exact ho i r hi) g3 (g4.imp id (fun hi ad e => ⟨(hL β w hm ad (by rw [<- e]; exact hi)).1, fun i r hr => by
  obtain ⟨hr, hrn⟩ := ho2 i r hr
  rw [if_neg (by omega)]
  exact (hL β w hm ad (by rw [<- e]; exact hi)).2 i r hr⟩))
 have hs3 := k2.put (d := d) (by simpa [Nat.blt_eq] using hd) (v := .agg [.bool m, .any (.slice a (ae.nd b tn) c), .any (.slice a2 (ae.nd b td) c2)]) ⟨trivial, rfl, rfl, trivial⟩
 exact ⟨_, _, _, rfl, h a c a2 c2 hcap, hs3⟩
end
section
open Go.RowKit
namespace Sym
theorem zf {C : Ctx} {dd : Option Nat} {f : FuncId} {args : List SV} {fr : List (Nat × SV)} {rows : List (Nat × Bool × aV)} {nx n : Nat} {K : St -> Prop} (i : Nat) {e : TypeId} {sz g m cap : Nat} {xs : List Value} (ys : List Value) (hi : get rows i = some (true, .aK (dN e sz g m cap xs)))
  (hp : ∀ (j : Nat) (v : Value), ys[j]? = some v -> xs[j]? = some v) (h : fE C dd f args ⟨fr, (i, false, .aK (bV C.base (some ⟨g, 0, none⟩) ys)) :: rows, nx, n⟩ K) : fE C dd f args ⟨fr, rows, nx, n⟩ K := by
 unfold fE at h ⊢
 exact ⟨h.1, fun β a w hs => h.2 β a w (hs.share i hi hp)⟩
theorem RI {C : Ctx} {c : Code} {k : List It} {fr : List (Nat × SV)} {rows : List (Nat × Bool × aV)} {nx n : Nat} (j : Nat) {Φ : Nat -> Option Obj -> Prop} (hj : get rows j = some (false, .aK Φ))
  (h : LoopN C c k ⟨fr, (nx, false, .aK Φ) :: rows, nx + 1, n⟩) : LoopN C c k ⟨fr, rows, nx, n⟩ := by
 unfold LoopN at h ⊢
 intro β a w hs
 have hm := hs.mem
 obtain ⟨h1, h2⟩ := (hm.row j _ _ hj).1
 exact h _ _ _ (hs.learn (o := false) (b := β j) (Φ := Φ) h1 h2 (fun e => by cases e) (fun i r hi e => hm.inj i j r _ _ hi hj (fun e0 => by subst e0; rw [hi] at hj; cases hj) e.symm))
end Sym
end
section
open Go.RowKit
namespace Sym
theorem F7 {C : Ctx} {d : Nat} {ty : TypeId} {pos : String} {after : Array Edge} {gd : Option (Nat × Bool)} {fr : List (Nat × SV)} {rows : List (Nat × Bool × aV)} {nx n : Nat} {K : St -> Prop}
  {x : Operand} {src dst e : TypeId} (l : List UInt8) (h0 : 0 < C.base) (hd : Nat.blt d n = true) (hx : ev fr x = some (.str l))
  (hs0 : C.P.underlying src = some .string) (hd0 : C.P.underlying dst = some (.slice e)) (he : C.P.underlying e = some (.int .u8))
  (h : ∀ g cap, K ⟨(d, .any (.slice (some ⟨g, 0, none⟩) l.length cap)) :: fr, (nx, false, .aK (bV C.base (some ⟨g, 0, none⟩) (dJ l))) :: rows, nx + 1, n⟩) :
  sZ C ⟨some d, .convert src dst x, ty, pos, after, gd⟩ ⟨fr, rows, nx, n⟩ K := by
 unfold sZ
 intro β a w hs next Q hn
 have e1 := (bC hs hx).1
 have hlen : (ah l).size = l.length := bW l
 have hr := Lib.run_convert_string_bytes (P := C.P) w src dst e (ah l) hs0 hd0 he
 rw [hlen] at hr
 unfold Oper.wp
 have hrun : (execOp a.eval ⟨some d, .convert src dst x, ty, pos, after, gd⟩).run C.P w = .ok (.value (.slice (some ⟨w.heap.size, 0, none⟩) l.length (grownCap w l.length 0 e))) (Lib.bytesWorld w e (ah l)) := by
  simp only [execOp, e1, SV.den, Sem.run_bind, hr]; simp
 rw [hrun]
 have hm := hs.mem
 have hb : BW w (Lib.bytesWorld w e (ah l)) := Go.Joins.below_bytesWorld w.heap.size w e _ (Nat.le_refl _)
 have hs' : Sat C.base C.w0 ⟨fr, rows, nx, n⟩ β a (Lib.bytesWorld w e (ah l)) := ⟨hs.defers, hs.size, hs.slot, hm.fG hb⟩
 have ho : ∀ i r, get rows i = some (true, r) -> C.base <= β i /\ β i < w.heap.size := fun i r hi => ⟨(hm.row i true r hi).2.2.2 rfl, hm.lt i (hm.row i true r hi).2.2.1⟩
 have hsl : aS (some ⟨w.heap.size, 0, none⟩) (dJ l) (Lib.bytesWorld w e (ah l)) := fun i v hi => by
  refine ⟨_, rfl, ?_, ?_⟩
  ·rw [Lib.bytesWorld_size]; exact Nat.lt_succ_self _
  ·have hil : i < l.length := by
    have := (List.getElem?_eq_some_iff.1 hi).1
    simpa [dJ] using this
   have h1 := Lib.bytesWorld_cell w e (ah l) i (by rw [hlen]; exact hil)
   have h2 : (Addr.add ⟨w.heap.size, 0, none⟩ i : Addr) = ⟨w.heap.size, i, none⟩ := by simp [Addr.add, eq_comm]
   rw [h2, h1, <- hi]
   have h3 : (dJ l)[i]? = some (.int .u8 (l[i].toNat : Int)) := by simp [dJ, hil]
   rw [h3]
   congr 2
   simp [ah, List.getD, hil]
 obtain ⟨q, k1⟩ := hs'.Lc (a := some ⟨w.heap.size, 0, none⟩) (xs := dJ l) h0 hm.aU hb.size ho hsl (.inl fun _ ad e => by cases e; exact Nat.le_refl _)
 have hs3 := k1.put (d := d) (by simpa [Nat.blt_eq] using hd) (v := .any (.slice (some ⟨w.heap.size, 0, none⟩) l.length (grownCap w l.length 0 e))) rfl
 exact hn _ _ _ _ (h w.heap.size _) hs3
end Sym
end
end Go.Proofs.YtdkhkfdenlabaaaGreatDoor
namespace Go.Proofs.YtdkhkfdenlabaaaGreatDoor.Bi
open Go
theorem uf (a : Nat) (ha : a < 9223372036854775808) : (BitVec.ofInt 64 (a : Int)).toNat = a := by
 rw [BitVec.ofInt_natCast, BitVec.toNat_ofNat]; exact Nat.mod_eq_of_lt (by omega)
theorem IC (a b : Nat) (ha : a < 9223372036854775808) (hb : b < 9223372036854775808) : bits .and .i64 (a : Int) (b : Int) = ((a &&& b : Nat) : Int) := by
 have hx : a &&& b < 2 ^ 63 := Nat.and_lt_two_pow _ (by omega)
 show IntKind.i64.wrap ((BitVec.ofInt 64 (a : Int) &&& BitVec.ofInt 64 (b : Int)).toNat : Int) = _
 rw [BitVec.toNat_and, uf a ha, uf b hb, IntKind.wrap_i64]
 omega
theorem KY (a b : Nat) (ha : a < 9223372036854775808) (hb : b < 9223372036854775808) : bits .or .i64 (a : Int) (b : Int) = ((a ||| b : Nat) : Int) := by
 have hx : a ||| b < 2 ^ 63 := Nat.or_lt_two_pow (by omega) (by omega)
 show IntKind.i64.wrap ((BitVec.ofInt 64 (a : Int) ||| BitVec.ofInt 64 (b : Int)).toNat : Int) = _
 rw [BitVec.toNat_or, uf a ha, uf b hb, IntKind.wrap_i64]
 omega
end Go.Proofs.YtdkhkfdenlabaaaGreatDoor.Bi
namespace Go.Proofs.YtdkhkfdenlabaaaGreatDoor
section
open Go.RowKit
namespace Sym
theorem xq {C : Ctx} {G : eU} {x y : Operand} {t u : TypeId} {k : IntKind} {a b : Int} (c : Int) (hc : k.wrap ((BitVec.ofInt k.bits a &&& BitVec.ofInt k.bits b).toNat : Int) = c) : dH C G (.binOp .and t x y u) [.int k a, .int k b] (.int k c) := by
 unfold dH
 intro ρ β w dst ty pos after g _ _ h
 have h' : ρ x = .int k a /\ ρ y = .int k b := by simpa [jg, SV.aF, SV.den] using h
 subst hc
 simp [execOp, eqGuard, binOp, Op.intBits, h'.1, h'.2, SV.den]
theorem XU {C : Ctx} {G : eU} {x y : Operand} {t u : TypeId} {k : IntKind} {a b : Int} (c : Int) (hc : k.wrap ((BitVec.ofInt k.bits a ||| BitVec.ofInt k.bits b).toNat : Int) = c) : dH C G (.binOp .or t x y u) [.int k a, .int k b] (.int k c) := by
 unfold dH
 intro ρ β w dst ty pos after g _ _ h
 have h' : ρ x = .int k a /\ ρ y = .int k b := by simpa [jg, SV.aF, SV.den] using h
 subst hc
 simp [execOp, eqGuard, binOp, Op.intBits, h'.1, h'.2, SV.den]
theorem Zk {C : Ctx} {G : eU} {x y : Operand} {t u : TypeId} {k k' : IntKind} {a : Int} (n : Nat) (hn : n <= k.bits) (hw : uu k (a * 2 ^ n)) : dH C G (.binOp .shl t x y u) [.int k a, .int k' (n : Int)] (.int k (a * 2 ^ n)) := by
 unfold dH
 intro ρ β w dst ty pos after g _ _ h
 have h' : ρ x = .int k a /\ ρ y = .int k' (n : Int) := by simpa [jg, SV.aF, SV.den] using h
 have h0 : ¬ ((n : Int) < 0) := by omega
 simp [execOp, eqGuard, binOp, Op.shift, h'.1, h'.2, SV.den, h0, Nat.min_eq_left hn, ni hw]
end Sym
namespace Bi
theorem ofInt_u8 (a : Nat) (ha : a < 256) : (BitVec.ofInt 8 (a : Int)).toNat = a := by
 rw [BitVec.ofInt_natCast, BitVec.toNat_ofNat]; exact Nat.mod_eq_of_lt (by omega)
theorem u8_and (a b c : Nat) (ha : a < 256) (hb : b < 256) (hc : a &&& b = c) : IntKind.u8.wrap ((BitVec.ofInt IntKind.u8.bits (a : Int) &&& BitVec.ofInt IntKind.u8.bits (b : Int)).toNat : Int) = (c : Int) := by
 subst hc
 show IntKind.u8.wrap ((BitVec.ofInt 8 (a : Int) &&& BitVec.ofInt 8 (b : Int)).toNat : Int) = _
 have hx : a &&& b <= a := Nat.and_le_left
 rw [BitVec.toNat_and, ofInt_u8 a ha, ofInt_u8 b hb]
 exact Sym.ni (by simp only [Sym.uu]; omega)
theorem FP (a b c : Nat) (ha : a < 9223372036854775808) (hb : b < 9223372036854775808) (hc : a &&& b = c) : IntKind.i64.wrap ((BitVec.ofInt IntKind.i64.bits (a : Int) &&& BitVec.ofInt IntKind.i64.bits (b : Int)).toNat : Int) = (c : Int) := by
 subst hc
 exact IC a b ha hb
theorem KX (a b c : Nat) (ha : a < 9223372036854775808) (hb : b < 9223372036854775808) (hc : a ||| b = c) : IntKind.i64.wrap ((BitVec.ofInt IntKind.i64.bits (a : Int) ||| BitVec.ofInt IntKind.i64.bits (b : Int)).toNat : Int) = (c : Int) := by
 subst hc
 exact KY a b ha hb
theorem WQ (a : Nat) : a &&& 31 = a % 32 := Nat.and_two_pow_sub_one_eq_mod a 5
theorem WO (a : Nat) : a &&& 15 = a % 16 := Nat.and_two_pow_sub_one_eq_mod a 4
theorem Yn (a : Nat) : a &&& 7 = a % 8 := Nat.and_two_pow_sub_one_eq_mod a 3
theorem Kt (a : Nat) : a &&& 63 = a % 64 := Nat.and_two_pow_sub_one_eq_mod a 6
theorem E5 : ∀ a : Nat, a < 256 -> a &&& 192 = a / 64 * 64 := by decide
theorem Sm (a b : Nat) (hb : b < 64) : a * 64 ||| b = a * 64 + b := by
 have := Nat.two_pow_add_eq_or_of_lt (i := 6) (b := b) hb a
 rw [Nat.mul_comm a 64]
 exact this.symm
end Bi
end
section
open Go.RowKit
open Sym
def dU (k : IntKind) (b : Nat) (x : ae.Num) (ok : Bool) (w : World) (e : Ending) (w' : World) : Prop :=
 ∃ t : bI, e = .returned (.tuple #[t.val b, .bool ok]) /\ t.num = x /\ iw b t /\ (∀ p ∈ t.L k b, aS p.1 p.2 w' /\ bz p.1 p.2 w) /\ BW w w'
theorem gG {C : Ctx} {d : Nat} {f : FuncId} {args : List SV} {fr : List (Nat × SV)} {rows : List (Nat × Bool × aV)} {nx n : Nat} {K : St -> Prop} (k : IntKind) (b : Nat) (x : ae.Num) (ok : Bool) (h0 : 0 < C.base)
  (he : dK C.P f = true) (hd : Nat.blt d n = true) (hc : ∀ β w, Mem C.base C.w0 rows nx β w -> Calls C.P f (SV.aF β args).toArray w (dU k b x ok w))
  (h : ∀ a c a2 c2, iw b ⟨x.m, x.n, x.d, a, c, a2, c2⟩ -> K ⟨(d, .bg [.agg [.bool x.m, .any (.slice a (ae.nd b x.n) c), .any (.slice a2 (ae.nd b x.d) c2)], .lit ok]) :: fr, (nx + 1, false, .aK (bV C.base a2 (nv k b x.d))) :: (nx, false, .aK (bV C.base a (nv k b x.n))) :: rows, nx + 2, n⟩) : fE C (some d) f args ⟨fr, rows, nx, n⟩ K :=
 bT (T := {t : bI // t.num = x /\ iw b t}) (fun t => .bg [t.1.sv b, .lit ok]) (fun t => t.1.L k b) h0 he hd (fun t => ⟨⟨trivial, rfl, rfl, trivial⟩, trivial, trivial⟩)
  (fun β w hm => (hc β w hm).mono fun e w' ⟨t, he, h1, h2, h3, h4⟩ => ⟨h4, ⟨t, h1, h2⟩, he, h3⟩)
  (fun t _ => by
   obtain ⟨⟨m, tn, td, a, c, a2, c2⟩, rfl, h2⟩ := t
   exact h a c a2 c2 h2)
end
end Go.Proofs.YtdkhkfdenlabaaaGreatDoor
