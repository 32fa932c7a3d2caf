/- The walk's steps behind lemmas whose last argument is shown by default. A walk that reckons: calls that answer with several slices of their own making, among others; fractions. A walk that reckons: numbers kept free ahead of a drawn region; one's own cells told of another number. A walk that reckons: fractions whose slices may be arguments'. A walk that reckons: fractions whose slices are new to the function. A walk that reckons: rows doubled, own rows shared ahead of a call. A walk that reckons: a string turned into bytes. Bits of int. A walk that reckons: bits. A walk that reckons: a fraction of slices and a yes or no. A walk that reckons: an array of numbers, sliced. A walk that reckons: bytes that are known, turned into a string. A walk that reckons: bytes that a conversion has made, written. A walk that reckons: sets of numbers as maps to true, made by the function itself; ranging over them. DERIVED: THE SHELF's CONTRACTS AT THIS DUMP, IN PLAIN WORDS (tools/lay-plain.mjs out of 'TrydShelf.lean', which tools/lay-shelf.mjs wrote): THE SAME DECLARATIONS UNDER THE SAME NAMES: 'import', 'namespace', 'open', 'def', 'theorem' AND NOTHING ELSE: no command of the shelf's: FOR A HAND-IN. Each laying: the table of numbers ('.._ren') and one theorem, a field a fact of the dump's own or the kernel's comparison; each contract: ONE APPLICATION. -/
import Derived.Test.YtlccmanncfbdkaaDoorPGC
import Derived.Test.YtlccmanncfbdkaaDoorPGA
import Derived.Lib.ConvBytes
import Derived.Lib.SmallJoins
import Derived.Laws.BitsLemmas
import Derived.Laws.BitsAllLaws
import Derived.Lib.FrozenHead
import Derived.Maps.RangeRun
import Derived.MapKept
import Derived.Shelf.Unicode.Decode
import Derived.Shelf.Unicode.DecodeSlow
import Derived.Shelf.Unicode.DecodeAny
import Derived.Test.YtlccmanncfbdkaaDoorProg
set_option linter.unusedSimpArgs false
set_option linter.unusedVariables false
namespace Go.Proofs.YtlccmanncfbdkaaDoor
open Go.RowKit
open Sym
attribute [local irreducible] Calls Sym.AggEq
abbrev BW (w w' : World) : Prop := Below w.heap.size w w'
structure YI (p q : Prop) : Prop where
  go : q → p
structure YT (p q r : Prop) : Prop where
  go : q → r → p
theorem Yi.r {q : Prop} : YI q q := ⟨id⟩
theorem Yi.a {p r A B q : Prop} (n : ¬ p) (k : YI B q) : YI ((p → A) ∧ (r → B)) q := ⟨fun x => ⟨fun h => absurd h n, fun _ => k.go x⟩⟩
theorem Yi.b {p r A B q : Prop} (n : ¬ r) (k : YI A q) : YI ((p → A) ∧ (r → B)) q := ⟨fun x => ⟨fun _ => k.go x, fun h => absurd h n⟩⟩
theorem Yi.c {p A q : Prop} (n : p) (k : YI A q) : YI (p ∧ A) q := ⟨fun x => ⟨n, k.go x⟩⟩
theorem Yi.d {a : IntKind} {b : Int} {A q : Prop} (n : inK a b) (k : YI A q) : YI (inK a b ∧ A) q := ⟨fun x => ⟨n, k.go x⟩⟩
theorem Yi.e {a : Int} {A q : Prop} (n : a ≤ 9223372036854775807) (k : YI A q) : YI (a ≤ 9223372036854775807 ∧ A) q := ⟨fun x => ⟨n, k.go x⟩⟩
theorem Yi.g {C : Ctx} {all l : List Oper} {k : List It} {dst : Option Nat} {f : FuncId} {args : List SV} {st : St} {q : Prop} (hE : EnvOK C.P C.E) (hres : C.fn.results = C.res.toArray) (h : YI (CallX C dst f args st (fun st' => wpS C 1000 (.ops all l :: k) st')) q) : YI (CallN C all l k dst f args st) q := ⟨fun x => call_of hE hres 1000 (h.go x)⟩
theorem Yi.h {C : Ctx} {all l : List Oper} {k : List It} {o : Oper} {st : St} {q : Prop} (hE : EnvOK C.P C.E) (hres : C.fn.results = C.res.toArray) (h : YI (OpX C o st (fun st' => wpS C 1000 (.ops all l :: k) st')) q) : YI (XopN C all l k o st) q := ⟨fun x => xop_of hE hres 1000 (h.go x)⟩
theorem Yi.i {p : (Nat → Nat) → Prop} : YI (AllBe p) (∀ β, p β) := ⟨fun h => allBe h⟩
theorem Yi.j {P : Program} {E : Env} {w0 : World} {fn : Func} {res : List ResultVar} {V : Value} {st : St} {v : SV} {sc sb : List Nat} : YI (RetN ⟨P, E, w0.heap.size, Base.of w0, fn, res, fun e w' => e = .returned V ∧ Below w0.heap.size w0 w', sc, sb⟩ st v) (∀ β, v.den β = V) := ⟨fun h => retB h⟩
theorem Yi.k {a b c d : Prop} : YT ((a → b) ∧ (c → d)) (a → b) (c → d) := ⟨And.intro⟩
theorem Yi.l {p q : Prop} : YT (bothX p q) p q := ⟨bothI⟩
theorem yX {p q : Prop} (h : q) (e : YI p q := by
  first
  | (with_reducible first | show YI (wpS ..) _ | show YI (putD ..) _ | show YI (putW ..) _ | show YI (splitG ..) _ | show YI (wpQ ..) _ | show YI (wpD ..) _ | show YI (wpX ..) _ | show YI (expX ..) _ | show YI (stepX ..) _ | show YI (keepR ..) _ | show YI (wpY ..) _ | show YI (roF ..) _); (conv => arg 1; whnf)
  | (apply Yi.a; · first | omega | decide)
  | (apply Yi.b; · first | omega | decide)
  | (apply Yi.c; · kernel_rfl)
  | (apply Yi.d; · (unfold inK; omega))
  | (apply Yi.e; · ((try simp only [List.length_append, List.length_drop, List.length_take, List.length_cons, List.length_nil]); omega))
  | ((with_reducible show YI (CallN ..) _); apply Yi.g; (· exact env_ok); (· rfl))
  | ((with_reducible show YI (XopN ..) _); apply Yi.h; (· exact env_ok); (· rfl))
  | ((with_reducible show YI (AllBe ..) _); exact Yi.i)
  | ((with_reducible show YI (RetN ..) _); exact Yi.j)
  all_goals repeat' (first
  | (with_reducible first | show YI (wpS ..) _ | show YI (putD ..) _ | show YI (putW ..) _ | show YI (splitG ..) _ | show YI (wpQ ..) _ | show YI (wpD ..) _ | show YI (wpX ..) _ | show YI (expX ..) _ | show YI (stepX ..) _ | show YI (keepR ..) _ | show YI (wpY ..) _ | show YI (roF ..) _); (conv => arg 1; whnf)
  | (apply Yi.a; · first | omega | decide)
  | (apply Yi.b; · first | omega | decide)
  | (apply Yi.c; · kernel_rfl)
  | (apply Yi.d; · (unfold inK; omega))
  | (apply Yi.e; · ((try simp only [List.length_append, List.length_drop, List.length_take, List.length_cons, List.length_nil]); omega))
  | ((with_reducible show YI (CallN ..) _); apply Yi.g; (· exact env_ok); (· rfl))
  | ((with_reducible show YI (XopN ..) _); apply Yi.h; (· exact env_ok); (· rfl))
  | ((with_reducible show YI (AllBe ..) _); exact Yi.i)
  | ((with_reducible show YI (RetN ..) _); exact Yi.j)
  | exact Yi.r)) : p := e.go h
theorem yW {p : Prop} (h : p := by ((with_reducible show wk _ _); repeat' (first | exact trivial | exact eqSV_refl _ | (refine eqI ?_) | (refine eqS ?_) | (with_reducible exact rfl) | apply And.intro | exact Nat.zero_lt_one | exact Nat.le_of_ble_eq_true rfl | (with_reducible assumption) | ((show (_ : Int) = _); (try dsimp only); omega) | ((show eqSV _ _); simp [eqSV, isB, bval, *]; done) | rfl))) : p := h
theorem yV {p : Prop} (h : p := by first | exact trivial | exact eqSV_refl _ | (with_reducible exact rfl) | exact Nat.zero_lt_one | exact Nat.le_of_ble_eq_true rfl | (with_reducible assumption) | ((show (_ : Int) = _); (try dsimp only); omega) | ((show eqSV _ _); simp [eqSV, isB, bval, *]; done) | rfl) : p := h
theorem yE {f : FuncId} {fn : Func} {c : Code} {res : List ResultVar} {nt : Nat} {R : Ending → World → Prop} (hf : Tryd.prog.funcs[f]? = some fn) (hb : fn.body = some c) (hres : fn.results = res.toArray) (hnt : fn.ntmps = nt)
    (sc sb : List Nat) (vs : List SV) (w : World) (h : wpS ⟨Tryd.prog, env, w.heap.size, Base.of w, fn, res, R, sc, sb⟩ 1000 [.code c] ⟨argSlots 0 vs, [], 0, nt⟩)
    (hv : SV.oks 0 vs := by first | (simp [SV.oks, SV.ok]; done) | (repeat' (first | exact trivial | rfl | apply And.intro))) (hlen : vs.length ≤ nt := by exact Nat.le_of_ble_eq_true rfl) :
    Calls Tryd.prog f (SV.dens (fun _ => 0) vs).toArray w R := enter env_ok hf hb hres hnt sc sb vs hv hlen w R 1000 h
theorem yK {C : Ctx} {d : Nat} {f : FuncId} {args : List SV} {fr : List (Nat × SV)} {rows : List (Nat × Bool × SRow)} {nx n : Nat} {K : St → Prop} (v : SV)
    (hc : ∀ β w, Mem C.base C.w0 rows nx β w → Calls C.P f (SV.dens β args).toArray w fun e w' => e = .returned (v.den β) ∧ Below w.heap.size w w') (h : K ⟨(d, v) :: fr, rows, nx, n⟩)
    (he : entersB C.P f = true := by kernel_rfl) (hd : Nat.blt d n = true := by rfl) (hv : v.ok nx := by repeat' (first | exact trivial | rfl | apply And.intro)) : CallX C (some d) f args ⟨fr, rows, nx, n⟩ K := callX v he hd hv hc h
theorem yO {C : Ctx} {G : Blobs} {op : Op} {us : List SV} {v : SV} {K : SV → Prop} (hx : ExtN C G op us v) (h : K v)
    (ok : ∀ n, SV.oks n us → v.ok n := by first | exact fun _ _ => trivial | exact fun _ _ => rfl | exact fun _ h => h.1 | exact fun _ h => h) : ∃ v : SV, (∀ n, SV.oks n us → v.ok n) ∧ ExtN C G op us v ∧ K v := ⟨v, ok, hx, h⟩
theorem yN {C : Ctx} {G : Blobs} {x y : Operand} {t e : TypeId} {a : Addr} {len cap j sz : Nat} {i : Int} {K : SV → Prop} (ht : C.P.underlying t = some (.slice e)) (hs : ∀ w, (sizeOf e).run C.P w = .ok sz w) (h : K (.any (.pointer (some (a.add (j * sz))))))
    (hi : i = (j : Nat) := by omega) (hj : j < len := by omega) (ok : ∀ n, SV.oks n [.any (.slice (some a) len cap), .int .i64 i] → (SV.any (.pointer (some (a.add (j * sz))))).ok n := by exact fun _ _ => rfl) : ∃ v : SV, (∀ n, SV.oks n [.any (.slice (some a) len cap), .int .i64 i] → v.ok n) ∧ ExtN C G (.indexAddr t x y) [.any (.slice (some a) len cap), .int .i64 i] v ∧ K v := ⟨_, ok, x_index hi ht hs hj, h⟩
inductive YL (rows : List (Nat × Bool × SRow)) (a : Option Addr) (xs : List Value) : Prop
  | f (j : Nat) {o : Bool} {bs : Nat} (h : get rows j = some (o, .blob (SlF bs a xs)))
  | b (j : Nat) {o : Bool} (h : get rows j = some (o, .blob (SlB a xs)))
theorem ySl {base : Nat} {w0 : Base} {rows : List (Nat × Bool × SRow)} {nx : Nat} {β : Nat → Nat} {w : World} (hm : Mem base w0 rows nx β w) {a : Option Addr} {xs : List Value}
    (e : YL rows a xs := by first | exact .f 0 rfl | exact .f 1 rfl | exact .f 2 rfl | exact .f 3 rfl | exact .f 4 rfl | exact .f 5 rfl | exact .f 6 rfl | exact .f 7 rfl | exact .f 8 rfl | exact .f 9 rfl | exact .f 10 rfl | exact .f 11 rfl | exact .f 12 rfl | exact .f 13 rfl | exact .f 14 rfl | exact .f 15 rfl | exact .f 16 rfl | exact .f 17 rfl | exact .f 18 rfl | exact .f 19 rfl | exact .f 20 rfl | exact .f 21 rfl | exact .f 22 rfl | exact .f 23 rfl | exact .f 24 rfl | exact .f 25 rfl | exact .f 26 rfl | exact .f 27 rfl | exact .f 28 rfl | exact .f 29 rfl | exact .f 30 rfl | exact .f 31 rfl | exact .f 32 rfl | exact .b 0 rfl | exact .b 1 rfl | exact .b 2 rfl | exact .b 3 rfl | exact .b 4 rfl | exact .b 5 rfl | exact .b 6 rfl | exact .b 7 rfl | exact .b 8 rfl | exact .b 9 rfl | exact .b 10 rfl | exact .b 11 rfl | exact .b 12 rfl | exact .b 13 rfl | exact .b 14 rfl | exact .b 15 rfl | exact .b 16 rfl | exact .b 17 rfl | exact .b 18 rfl | exact .b 19 rfl | exact .b 20 rfl | exact .b 21 rfl | exact .b 22 rfl | exact .b 23 rfl | exact .b 24 rfl | exact .b 25 rfl | exact .b 26 rfl | exact .b 27 rfl | exact .b 28 rfl | exact .b 29 rfl | exact .b 30 rfl | exact .b 31 rfl | exact .b 32 rfl) : SlAt a xs w := by
  cases e with
  | f j h => exact hm.slF j h
  | b j h => exact hm.slB j h
inductive YM (rows : List (Nat × Bool × SRow)) (b : Nat) (a : Option Addr) (xs : List Value) : Prop
  | f (j : Nat) {o : Bool} (h : get rows j = some (o, .blob (SlF b a xs)))
theorem yZ {C : Ctx} {c : Code} {k : List It} {st : St} {T : Type} (J : T → St) (μ : T → Nat) (t0 : T) (sc sb : List Nat)
    (h : ∀ t (I : Act → World → Prop), (∀ st' t', μ t' < μ t → wk st' (J t') → BackN { C with sc := sc, sb := sb } I st') → wpS { C with sc := sc, sb := sb } 1000 (.code c :: .back I :: k) (J t))
    (h0 : wk st (J t0) := by exact yW) (hn0 : ∀ t, C.w0.n0 ≤ (J t).next := by exact fun _ => Nat.zero_le _) (hE : EnvOK C.P C.E := by exact env_ok) (hres : C.fn.results = C.res.toArray := by rfl) : LoopN C c k st :=
  loop hE hres J μ t0 1000 sc sb hn0 h0 h
end Go.Proofs.YtlccmanncfbdkaaDoor
namespace Go.Proofs.YtlccmanncfbdkaaDoor
open Go.RowKit
namespace Sym
open ExP (nd)
end Sym
open Sym
/-- a fraction as a struct of two slices -/
structure FrV where
  m : Bool
  n : Nat
  d : Nat
  a : Option Addr
  c : Nat
  b : Option Addr
  e : Nat
def FrV.num (x : FrV) : ExP.Num := ⟨x.m, x.n, x.d⟩
def FrV.val (b : Nat) (x : FrV) : Value := .agg #[.bool x.m, .slice x.a (ExP.nd b x.n) x.c, .slice x.b (ExP.nd b x.d) x.e]
def FrV.sv (b : Nat) (x : FrV) : SV := .agg [.bool x.m, .any (.slice x.a (ExP.nd b x.n) x.c), .any (.slice x.b (ExP.nd b x.d) x.e)]
structure FrCap (b : Nat) (x : FrV) : Prop where
  an : x.a = none → x.c = 0
  bn : x.b = none → x.e = 0
  cn : ExP.nd b x.n ≤ x.c
  cd : ExP.nd b x.d ≤ x.e
structure FrIn (k : IntKind) (b : Nat) (x : FrV) (w : World) : Prop where
  sn : SlAt x.a (nv k b x.n) w
  sd : SlAt x.b (nv k b x.d) w
  cap : FrCap b x
theorem FrIn.below {k : IntKind} {b : Nat} {x : FrV} {w w' : World} (h : FrIn k b x w) (hb : Below w.heap.size w w') : FrIn k b x w' := ⟨h.sn.below hb, h.sd.below hb, h.cap⟩
def FrV.L (k : IntKind) (b : Nat) (x : FrV) : List (Option Addr × List Value) := [(x.a, nv k b x.n), (x.b, nv k b x.d)]
section
variable {C : Ctx} {d : Nat} {f : FuncId} {args : List SV} {fr : List (Nat × SV)} {rows : List (Nat × Bool × SRow)} {nx n : Nat} {K : St → Prop}
end
end Go.Proofs.YtlccmanncfbdkaaDoor
namespace Go.Proofs.YtlccmanncfbdkaaDoor
open Go.RowKit
namespace Sym
/-- rows but one -/
def del (j : Nat) : List (Nat × Bool × SRow) → List (Nat × Bool × SRow)
  | [] => []
  | (i, x) :: r => match Nat.beq i j with
    | true => del j r
    | false => (i, x) :: del j r
theorem get_del {j : Nat} : ∀ (rows : List (Nat × Bool × SRow)) (q : Nat), get (del j rows) q = if q = j then none else get rows q
  | [], q => by simp [del, get]
  | (i, x) :: r, q => by
    have ih := get_del (j := j) r q
    unfold del
    cases h : Nat.beq i j with
    | true =>
      have := Nat.eq_of_beq_eq_true h
      subst this
      dsimp only
      rw [ih, get_cons]
      by_cases e : q = i
      · rw [if_pos e, if_pos e]
      · rw [if_neg e, if_neg e, if_neg (fun e' => e e'.symm)]
    | false =>
      have hne := Nat.ne_of_beq_eq_false h
      dsimp only
      rw [get_cons, get_cons, ih]
      by_cases e : i = q
      · subst e; rw [if_pos rfl, if_neg hne]; simp
      · rw [if_neg e]; by_cases e2 : q = j
        · simp [e2]
        · simp [e2, e]
theorem Sat.own {base : Nat} {w0 : Base} {β : Nat → Nat} {a : Act} {w : World} {fr : List (Nat × SV)} {rows : List (Nat × Bool × SRow)} {nx n : Nat} (s i j : Nat) {t : TypeId} {cs : List SV} (hs : Sat base w0 ⟨fr, rows, nx, n⟩ β a w)
    (hsl : get fr s = some (.ptr j 0)) (hj : get rows j = some (true, .cells t cs)) (hi : i < nx) (hij : i ≠ j) (hn0 : w0.n0 ≤ i) (hgi : get rows i = none)
    (hno : (mentF i fr || mentR i rows) = false) : Sat base w0 ⟨(s, .ptr i 0) :: fr, (i, true, .cells t cs) :: del j rows, nx, n⟩ (fun q => if q = i then β j else β q) a w := by
  obtain ⟨h1, h2, h3, h4⟩ := hs
  simp only [Bool.or_eq_false_iff] at hno
  have hβ : ∀ q, q ≠ i → (fun q => if q = i then β j else β q) q = β q := fun q hq => by dsimp only; rw [if_neg hq]
  obtain ⟨k1, k2, k3, k4⟩ := h4.row j _ _ hj
  refine ⟨h1, h2, fun s' v hv => ?_, ?_⟩
  · rw [get_cons] at hv
    by_cases e : s = s'
    · rw [if_pos e] at hv
      cases hv
      subst e
      obtain ⟨e1, e2⟩ := h3 s _ hsl
      refine ⟨?_, hi⟩
      rw [e1]
      simp [SV.den]
    · rw [if_neg e] at hv
      obtain ⟨e1, e2⟩ := h3 s' v hv
      exact ⟨by rw [e1, ment_den hβ v (mentF_get fr hno.1 hv)], e2⟩
  refine ⟨h4.below, h4.base_le, fun q o r hq => ?_, fun q hq => ?_, fun q p r o r' hq hp hpq => ?_, h4.n0, fun q hq => ?_⟩
  · rw [get_cons] at hq
    by_cases e : i = q
    · rw [if_pos e] at hq
      cases hq
      subst e
      try dsimp only
      rw [if_pos rfl]
      refine ⟨?_, k2, hi, k4⟩
      simp only [RowIs] at k1 ⊢; rw [ments_den hβ cs (mentR_get rows hno.2 hj)]; exact k1
    · rw [if_neg e, get_del] at hq
      split at hq
      · cases hq
      obtain ⟨m1, m2, m3, m4⟩ := h4.row q o r hq
      try dsimp only
      rw [if_neg (fun e' => e e'.symm)]
      refine ⟨?_, m2, m3, m4⟩
      cases r with
      | cells t cs => simp only [RowIs] at m1 ⊢; rw [ments_den hβ cs (mentR_get rows hno.2 hq)]; exact m1
      | blob Φ => exact m1
  · have hq : q < nx := hq
    try dsimp only
    split
    · exact h4.lt j k3
    · exact h4.lt q hq
  · rw [get_cons] at hq hp
    by_cases e : i = q
    · rw [if_neg (fun e' => hpq (e'.symm.trans e)), get_del] at hp
      split at hp
      · cases hp
      rename_i hpj
      try dsimp only
      rw [if_pos e.symm, if_neg (fun e' => hpq (e'.trans e))]
      exact h4.inj j p _ o r' hj hp hpj
    · rw [if_neg e, get_del] at hq
      split at hq
      · cases hq
      rename_i hqj
      have e' : ¬ q = i := fun e' => e e'.symm
      try dsimp only
      rw [if_neg e']
      by_cases e2 : i = p
      · rw [if_pos e2.symm]
        exact h4.inj q j r _ _ hq hj (fun e3 => hqj e3.symm)
      · rw [if_neg e2, get_del] at hp
        split at hp
        · cases hp
        have e4 : ¬ p = i := fun e' => e2 e'.symm
        rw [if_neg e4]
        exact h4.inj q p r o r' hq hp hpq
  · have hq : q < w0.n0 := hq
    try dsimp only
    rw [if_neg (by omega)]; exact h4.ext q hq
end Sym
end Go.Proofs.YtlccmanncfbdkaaDoor
namespace Go.Proofs.YtlccmanncfbdkaaDoor
open Go.RowKit
namespace Sym
open ExP (nd)
end Sym
open Sym
end Go.Proofs.YtlccmanncfbdkaaDoor
namespace Go.Proofs.YtlccmanncfbdkaaDoor
open Go.RowKit
namespace Sym
open ExP (nd)
end Sym
open Sym
end Go.Proofs.YtlccmanncfbdkaaDoor
namespace Go.Proofs.YtlccmanncfbdkaaDoor
open Go.RowKit
namespace Sym
end Sym
end Go.Proofs.YtlccmanncfbdkaaDoor
namespace Go.Proofs.YtlccmanncfbdkaaDoor
open Go.RowKit
namespace Sym
end Sym
end Go.Proofs.YtlccmanncfbdkaaDoor
namespace Go.Proofs.YtlccmanncfbdkaaDoor.Bi
open Go
theorem ofInt_i64 (a : Nat) (ha : a < 9223372036854775808) : (BitVec.ofInt 64 (a : Int)).toNat = a := by
  rw [BitVec.ofInt_natCast, BitVec.toNat_ofNat]; exact Nat.mod_eq_of_lt (by omega)
theorem i64_and_nat (a b : Nat) (ha : a < 9223372036854775808) (hb : b < 9223372036854775808) : bits .and .i64 (a : Int) (b : Int) = ((a &&& b : Nat) : Int) := by
  have hx : a &&& b < 2 ^ 63 := Nat.and_lt_two_pow _ (by omega)
  show IntKind.i64.wrap ((BitVec.ofInt 64 (a : Int) &&& BitVec.ofInt 64 (b : Int)).toNat : Int) = _
  rw [BitVec.toNat_and, ofInt_i64 a ha, ofInt_i64 b hb, IntKind.wrap_i64]
  omega
theorem i64_or_nat (a b : Nat) (ha : a < 9223372036854775808) (hb : b < 9223372036854775808) : bits .or .i64 (a : Int) (b : Int) = ((a ||| b : Nat) : Int) := by
  have hx : a ||| b < 2 ^ 63 := Nat.or_lt_two_pow (by omega) (by omega)
  show IntKind.i64.wrap ((BitVec.ofInt 64 (a : Int) ||| BitVec.ofInt 64 (b : Int)).toNat : Int) = _
  rw [BitVec.toNat_or, ofInt_i64 a ha, ofInt_i64 b hb, IntKind.wrap_i64]
  omega
end Go.Proofs.YtlccmanncfbdkaaDoor.Bi
namespace Go.Proofs.YtlccmanncfbdkaaDoor
open Go.RowKit
namespace Sym
theorem x_and {C : Ctx} {G : Blobs} {x y : Operand} {t u : TypeId} {k : IntKind} {a b : Int} (c : Int) (hc : k.wrap ((BitVec.ofInt k.bits a &&& BitVec.ofInt k.bits b).toNat : Int) = c) : ExtN C G (.binOp .and t x y u) [.int k a, .int k b] (.int k c) := by
  unfold ExtN
  intro ρ β w dst ty pos after g _ _ h
  have h' : ρ x = .int k a ∧ ρ y = .int k b := by simpa [opsX, SV.dens, SV.den] using h
  subst hc
  simp [execOp, eqGuard, binOp, Op.intBits, h'.1, h'.2, SV.den]
theorem x_or {C : Ctx} {G : Blobs} {x y : Operand} {t u : TypeId} {k : IntKind} {a b : Int} (c : Int) (hc : k.wrap ((BitVec.ofInt k.bits a ||| BitVec.ofInt k.bits b).toNat : Int) = c) : ExtN C G (.binOp .or t x y u) [.int k a, .int k b] (.int k c) := by
  unfold ExtN
  intro ρ β w dst ty pos after g _ _ h
  have h' : ρ x = .int k a ∧ ρ y = .int k b := by simpa [opsX, SV.dens, SV.den] using h
  subst hc
  simp [execOp, eqGuard, binOp, Op.intBits, h'.1, h'.2, SV.den]
theorem x_shl {C : Ctx} {G : Blobs} {x y : Operand} {t u : TypeId} {k k' : IntKind} {a : Int} (n : Nat) (hn : n ≤ k.bits) (hw : inK k (a * 2 ^ n)) : ExtN C G (.binOp .shl t x y u) [.int k a, .int k' (n : Int)] (.int k (a * 2 ^ n)) := by
  unfold ExtN
  intro ρ β w dst ty pos after g _ _ h
  have h' : ρ x = .int k a ∧ ρ y = .int k' (n : Int) := by simpa [opsX, SV.dens, SV.den] using h
  have h0 : ¬ ((n : Int) < 0) := by omega
  simp [execOp, eqGuard, binOp, Op.shift, h'.1, h'.2, SV.den, h0, Nat.min_eq_left hn, inK_wrap hw]
end Sym
namespace Bi
theorem ofInt_u8 (a : Nat) (ha : a < 256) : (BitVec.ofInt 8 (a : Int)).toNat = a := by
  rw [BitVec.ofInt_natCast, BitVec.toNat_ofNat]; exact Nat.mod_eq_of_lt (by omega)
theorem u8_and (a b c : Nat) (ha : a < 256) (hb : b < 256) (hc : a &&& b = c) : IntKind.u8.wrap ((BitVec.ofInt IntKind.u8.bits (a : Int) &&& BitVec.ofInt IntKind.u8.bits (b : Int)).toNat : Int) = (c : Int) := by
  subst hc
  show IntKind.u8.wrap ((BitVec.ofInt 8 (a : Int) &&& BitVec.ofInt 8 (b : Int)).toNat : Int) = _
  have hx : a &&& b ≤ a := Nat.and_le_left
  rw [BitVec.toNat_and, ofInt_u8 a ha, ofInt_u8 b hb]
  exact Sym.inK_wrap (by simp only [Sym.inK]; omega)
theorem i64_and (a b c : Nat) (ha : a < 9223372036854775808) (hb : b < 9223372036854775808) (hc : a &&& b = c) : IntKind.i64.wrap ((BitVec.ofInt IntKind.i64.bits (a : Int) &&& BitVec.ofInt IntKind.i64.bits (b : Int)).toNat : Int) = (c : Int) := by
  subst hc
  exact i64_and_nat a b ha hb
theorem i64_or (a b c : Nat) (ha : a < 9223372036854775808) (hb : b < 9223372036854775808) (hc : a ||| b = c) : IntKind.i64.wrap ((BitVec.ofInt IntKind.i64.bits (a : Int) ||| BitVec.ofInt IntKind.i64.bits (b : Int)).toNat : Int) = (c : Int) := by
  subst hc
  exact i64_or_nat a b ha hb
theorem and_31 (a : Nat) : a &&& 31 = a % 32 := Nat.and_two_pow_sub_one_eq_mod a 5
theorem and_15 (a : Nat) : a &&& 15 = a % 16 := Nat.and_two_pow_sub_one_eq_mod a 4
theorem and_7 (a : Nat) : a &&& 7 = a % 8 := Nat.and_two_pow_sub_one_eq_mod a 3
theorem and_63 (a : Nat) : a &&& 63 = a % 64 := Nat.and_two_pow_sub_one_eq_mod a 6
set_option maxRecDepth 100000 in
theorem and_192 : ∀ a : Nat, a < 256 → a &&& 192 = a / 64 * 64 := by decide
theorem or_64 (a b : Nat) (hb : b < 64) : a * 64 ||| b = a * 64 + b := by
  have := Nat.two_pow_add_eq_or_of_lt (i := 6) (b := b) hb a
  rw [Nat.mul_comm a 64]
  exact this.symm
end Bi
end Go.Proofs.YtlccmanncfbdkaaDoor
namespace Go.Proofs.YtlccmanncfbdkaaDoor
open Go.RowKit
open Sym
end Go.Proofs.YtlccmanncfbdkaaDoor
namespace Go.Proofs.YtlccmanncfbdkaaDoor
open Go.RowKit
namespace Sym
end Sym
end Go.Proofs.YtlccmanncfbdkaaDoor
namespace Go.Proofs.YtlccmanncfbdkaaDoor
open Go.RowKit
namespace Sym
theorem x_shlE {C : Ctx} {G : Blobs} {x y : Operand} {t u : TypeId} {k k' : IntKind} {a q : Int} (n : Nat) (c : Int) (hq : q = (n : Nat)) (hc : a * 2 ^ n = c) (hn : n ≤ k.bits) (hw : inK k c) : ExtN C G (.binOp .shl t x y u) [.int k a, .int k' q] (.int k c) := by
  subst hc; subst hq; exact x_shl n hn hw
end Sym
end Go.Proofs.YtlccmanncfbdkaaDoor
namespace Go.Proofs.YtlccmanncfbdkaaDoor
open Go.RowKit
namespace Sym
/-- a row of one's own whose frozen mark lies behind all that is known -/
def OwnF (e : TypeId) (g n : Nat) (xs : List Value) (b : Nat) (o : Option Obj) : Prop := b = g ∧ ∃ cur fz, o = some (.cells cur e fz) ∧ n ≤ fz.1 ∧ n ≤ cur.size ∧ cur.toList.take n = xs ∧ xs.length = n
theorem OwnF.cell {e : TypeId} {g n : Nat} {xs : List Value} {b : Nat} {w : World} (h : OwnF e g n xs b w.heap[b]?) : ∀ j u, xs[j]? = some u → w.cell? ((⟨g, 0, none⟩ : Addr).add j) = some u := by
  intro j u hu
  obtain ⟨rfl, cur, fz, ho, -, hn, ht, hl⟩ := h
  have hadd : (⟨b, 0, none⟩ : Addr).add j = ⟨b, j, none⟩ := by unfold Addr.add; split <;> simp_all
  rw [hadd]
  rw [← ht, List.getElem?_take] at hu
  split at hu
  · simp [World.cell?, ho]; simpa using hu
  · cases hu
theorem store_front (P : Program) (g p : Nat) (t : TypeId) (fz : Nat × Nat) (v : Value) (cur : Array Value) (w : World) (hg : w.heap[g]? = some (.cells cur t fz)) (hf : p < fz.1) (hp : p < cur.size) (h1 : v.oneCell' = true) :
    (storeCells ⟨g, p, none⟩ [v] 0).run P w = .ok () (w.setRow g (cur.setIfInBounds p v)) := by
  have hadd : (⟨g, p, none⟩ : Addr).add 0 = ⟨g, p, none⟩ := by unfold Addr.add; split <;> simp_all
  have hcell : w.cell? ⟨g, p, none⟩ = some cur[p] := by simp [World.cell?, hg, hp]
  have hfro : w.frozen? ⟨g, p, none⟩ = false := by
    obtain ⟨lo, hi'⟩ := fz
    simp only [World.frozen?, hg, Bool.and_eq_false_iff, decide_eq_false_iff_not]
    left
    simp only at hf
    omega
  have hst : (store (⟨g, p, none⟩ : Addr) v).run P w = .ok () (w.setRow g (cur.setIfInBounds p v)) := by
    rw [run_store P w _ v _ h1, hcell]
    simp [hfro, setCell_eq_setRow w g p cur t fz v hg]
  simp only [storeCells, hadd, Sem.run_bind, hst, Result.andThen_ok]
  rfl
theorem Sat.setBlobF {base : Nat} {w0 : Base} {β : Nat → Nat} {a : Act} {w : World} {i : Nat} {Φ Φ' : Nat → Option Obj → Prop} {t : TypeId} {cs' : Array Value} {cs : Array Value} {fz : Nat × Nat} {fr : List (Nat × SV)} {rows : List (Nat × Bool × SRow)} {nx n : Nat} (hs : Sat base w0 ⟨fr, rows, nx, n⟩ β a w) (hi : get rows i = some (true, .blob Φ)) (hr : w.heap[β i]? = some (.cells cs t fz))
    (hΦ : Φ' (β i) (some (.cells cs' t fz))) :
    Sat base w0 ⟨fr, (i, true, .blob Φ') :: rows, nx, n⟩ β a (w.setRow (β i) cs') := by
  obtain ⟨h1, h2, h3, h4⟩ := hs
  obtain ⟨k1, k2, k3, k4⟩ := h4.row i true _ hi
  have k3 : i < nx := k3
  have k4 := k4 rfl
  refine ⟨h1, h2, h3, ?_⟩
  refine ⟨h4.below.trans ⟨rfl, rfl, rfl, by rw [setRow_size]; exact Nat.le_refl _, fun k hk => setRow_other _ (by omega)⟩, by rw [setRow_size]; exact h4.base_le, fun j ow r hj => ?_, fun j hj => by rw [setRow_size]; exact h4.lt j hj, fun j l r ol rl hj hl hlj => ?_, h4.n0, h4.ext⟩
  · rw [get_cons] at hj
    by_cases e : i = j
    · rw [if_pos e] at hj
      cases hj
      subst e
      refine ⟨⟨by rw [setRow_size]; exact k1.1, ?_⟩, trivial, k3, fun _ => k4⟩
      have : (w.setRow (β i) cs').heap[β i]? = some (.cells cs' t fz) := setRow_heap w _ _ _ _ _ hr
      rw [this]; exact hΦ
    · rw [if_neg e] at hj
      obtain ⟨m1, m2, m3, m4⟩ := h4.row j ow r hj
      have m3 : j < nx := m3
      have hne : β j ≠ β i := h4.inj i j _ ow r hi hj (fun e' => e e'.symm)
      refine ⟨?_, m2, m3, m4⟩
      cases r with
      | cells t2 c2 =>
        simp only [RowIs] at m1 ⊢
        unfold Row at m1 ⊢
        rw [setRow_other _ hne]; exact m1
      | blob Φ =>
        obtain ⟨q1, q2⟩ := m1
        exact ⟨by rw [setRow_size]; exact q1, by rw [setRow_other _ hne]; exact q2⟩
  · have hj' : ∃ r0, get rows j = some (true, r0) := by
      rw [get_cons] at hj
      by_cases e : i = j
      · subst e; exact ⟨_, hi⟩
      · rw [if_neg e] at hj; exact ⟨_, hj⟩
    have hl' : ∃ o0 r0, get rows l = some (o0, r0) := by
      rw [get_cons] at hl
      by_cases e : i = l
      · subst e; exact ⟨_, _, hi⟩
      · rw [if_neg e] at hl; exact ⟨_, _, hl⟩
    obtain ⟨r0, hj'⟩ := hj'
    obtain ⟨o1, r1, hl'⟩ := hl'
    exact h4.inj j l r0 o1 r1 hj' hl' hlj
theorem opx_storeF {C : Ctx} (hE : EnvOK C.P C.E) {ty : TypeId} {pos : String} {after : Array Edge} {gd : Option (Nat × Bool)} {fr : List (Nat × SV)} {rows : List (Nat × Bool × SRow)} {nx n : Nat} {K : St → Prop}
    {t e : TypeId} {x y : Operand} (i : Nat) {p g m : Nat} {xs : List Value} {v : SV} {u : Value} {kd : TK} {ag : Bool} {z : List SV}
    (hx : ev fr x = some (.any (.pointer (some ((⟨g, 0, none⟩ : Addr).add p))))) (hy : ev fr y = some v) (hc : cellsSV v = some [v]) (ho : v.one = true) (hu : ∀ β, v.den β = u) (ht : get C.E t = some ⟨kd, 1, ag, z⟩)
    (ri : get rows i = some (true, .blob (OwnF e g m xs))) (hp : p < m)
    (h : K ⟨fr, (i, true, .blob (OwnF e g m (xs.set p u))) :: rows, nx, n⟩) : OpX C ⟨none, .store t x y, ty, pos, after, gd⟩ ⟨fr, rows, nx, n⟩ K := by
  unfold OpX
  intro β a w hs next Q hn
  have ht' := env_get hE ht
  obtain ⟨ex, _⟩ := ev_sound hs hx
  obtain ⟨ey, oy⟩ := ev_sound hs hy
  obtain ⟨ec, oc⟩ := cells_sound (β := β) hc oy
  have hm := hs.mem
  obtain ⟨k1, k2, k3, k4⟩ := hm.row i true _ ri
  obtain ⟨q0, cur, fz, q1, q2, q3, q4, q5⟩ := k1.2
  have hrow : w.heap[g]? = some (.cells cur e fz) := by rw [← q0]; exact q1
  have h1 : u.oneCell' = true := by
    have := (allOne_sound (β := β) (n := nx) (vs := [v]) (by simp [allOne, ho]) ⟨oy, trivial⟩) u (by simp [SV.dens, hu])
    exact this
  have hst := store_front C.P g p e fz u cur w hrow (by omega) (by omega) h1
  have hst2 : (storeVar t ⟨g, p, none⟩ (v.den β)).run C.P w = .ok () (w.setRow g (cur.setIfInBounds p u)) := by
    simp only [storeVar, Sem.run_bind, ht'.size, Result.andThen_ok, ec]
    rw [if_neg (by simp [SV.dens])]
    simp only [SV.dens, hu]
    exact hst
  rw [add_at] at ex
  simp only [SV.den, Nat.zero_add] at ex
  unfold Oper.wp
  have : (execOp a.eval ⟨none, .store t x y, ty, pos, after, gd⟩).run C.P w = .ok .skip (w.setRow g (cur.setIfInBounds p u)) := by
    simp [execOp, Instr.storeAt, ex, ey, Instr.sureAddr, hst2]
  rw [this]
  show next (a.put none undef) _
  have hs2 := hs.setBlobF (Φ' := OwnF e g m (xs.set p u)) (cs' := cur.setIfInBounds p u) ri q1 ⟨q0, _, _, rfl, q2, by simpa using q3, by rw [Array.toList_setIfInBounds, ← q4, List.take_set], by simpa using q5⟩
  rw [q0] at hs2
  exact hn _ _ _ _ h hs2
theorem x_loadOF {C : Ctx} {G : Blobs} {x : Operand} {t e : TypeId} {g m p : Nat} {xs : List Value} (i : Nat) (v : SV) (hag : ∀ w, (isAgg t).run C.P w = .ok false w) (ri : G i = some (OwnF e g m xs)) (hv : ∀ β, xs[p]? = some (v.den β)) :
    ExtN C G (.load t x) [.any (.pointer (some ((⟨g, 0, none⟩ : Addr).add p)))] v := by
  unfold ExtN
  intro ρ β w dst ty pos after gd _ hG h
  have e1 : ρ x = .pointer (some ((⟨g, 0, none⟩ : Addr).add p)) := by simpa [opsX, SV.dens, SV.den] using h
  obtain ⟨hb, ho⟩ := hG i _ ri
  have hc := OwnF.cell ho p _ (hv β)
  simp [execOp, Instr.loadAt, Instr.sureAddr, e1, loadVar, hag, hc]
theorem x_bytesStrOF {C : Ctx} {G : Blobs} {x : Operand} {t u e e' : TypeId} {g cap n m : Nat} (i : Nat) (l : List UInt8) (hs : C.P.underlying t = some (.slice e)) (he : C.P.underlying e = some (.int .u8)) (hd : C.P.underlying u = some .string)
    (ri : G i = some (OwnF e' g m (bvals l))) (hn : n = l.length) : ExtN C G (.convert t u x) [.any (.slice (some ⟨g, 0, none⟩) n cap)] (.str l) := by
  unfold ExtN
  intro ρ β w dst ty pos after gd _ hG h
  have e1 : ρ x = .slice (some ⟨g, 0, none⟩) n cap := by simpa [opsX, SV.dens, SV.den] using h
  obtain ⟨hb, ho⟩ := hG i _ ri
  have hc := OwnF.cell ho
  subst hn
  have hr := run_convert_bytes_back (P := C.P) w t u e ⟨g, 0, none⟩ cap l hs he hd (fun j hj => hc j _ (by simp [bvals, hj]))
  simp [execOp, e1, hr, SV.den, bstr]
theorem opx_strOwnF {C : Ctx} {d : Nat} {ty : TypeId} {pos : String} {after : Array Edge} {gd : Option (Nat × Bool)} {fr : List (Nat × SV)} {rows : List (Nat × Bool × SRow)} {nx n : Nat} {K : St → Prop}
    {x : Operand} {src dst e : TypeId} (l : List UInt8) (hd : Nat.blt d n = true) (hx : ev fr x = some (.str l))
    (hs0 : C.P.underlying src = some .string) (hd0 : C.P.underlying dst = some (.slice e)) (he : C.P.underlying e = some (.int .u8))
    (h : ∀ g cap, K ⟨(d, .any (.slice (some ⟨g, 0, none⟩) l.length cap)) :: fr, (nx, true, .blob (OwnF e g l.length (bvals l))) :: rows, nx + 1, n⟩) :
    OpX C ⟨some d, .convert src dst x, ty, pos, after, gd⟩ ⟨fr, rows, nx, n⟩ K := by
  unfold OpX
  intro β a w hs next Q hn
  have e1 := (ev_sound hs hx).1
  have hlen : (bstr l).size = l.length := bstr_size l
  have hr := Lib.run_convert_string_bytes (P := C.P) w src dst e (bstr l) hs0 hd0 he
  rw [hlen] at hr
  unfold Oper.wp
  have hrun : (execOp a.eval ⟨some d, .convert src dst x, ty, pos, after, gd⟩).run C.P w = .ok (.value (.slice (some ⟨w.heap.size, 0, none⟩) l.length (grownCap w l.length 0 e))) (Lib.bytesWorld w e (bstr l)) := by
    simp only [execOp, e1, SV.den, Sem.run_bind, hr]; simp
  rw [hrun]
  have hm := hs.mem
  have hb : Below w.heap.size w (Lib.bytesWorld w e (bstr l)) := Go.Joins.below_bytesWorld w.heap.size w e _ (Nat.le_refl _)
  have hs' : Sat C.base C.w0 ⟨fr, rows, nx, n⟩ β a (Lib.bytesWorld w e (bstr l)) := ⟨hs.defers, hs.size, hs.slot, hm.belowNext hb⟩
  have hlc : l.length ≤ (Lib.bytesCells w e (bstr l)).size := by
    unfold Lib.bytesCells; simp [bstr]
  have htk : (Lib.bytesCells w e (bstr l)).toList.take l.length = bvals l := by
    unfold Lib.bytesCells
    rw [Array.toList_append, List.take_append_of_le_length (by simp [bstr])]
    simp only [bstr, bvals, Array.toList_map, List.toArray, List.map_map]
    exact List.take_of_length_le (by simp)
  have hown : OwnF e w.heap.size l.length (bvals l) w.heap.size (Lib.bytesWorld w e (bstr l)).heap[w.heap.size]? := ⟨rfl, _, _, Lib.bytesWorld_at_new w e (bstr l), hlc, hlc, htk, by simp [bvals]⟩
  have hs2 := hs'.learn (o := true) (b := w.heap.size) (Φ := OwnF e w.heap.size l.length (bvals l)) (by rw [Lib.bytesWorld_size]; exact Nat.lt_succ_self _) hown (fun _ => ⟨hm.base_le, fun i o' r hi => by have := hm.lt i (hm.row i o' r hi).2.2.1; omega⟩) (fun i r hi => by have := hm.lt i (hm.row i true r hi).2.2.1; omega)
  have hs3 := hs2.put (d := d) (by simpa [Nat.blt_eq] using hd) (v := .any (.slice (some ⟨w.heap.size, 0, none⟩) l.length (grownCap w l.length 0 e))) rfl
  exact hn _ _ _ _ (h w.heap.size _) hs3
end Sym
end Go.Proofs.YtlccmanncfbdkaaDoor
namespace Go.Proofs.YtlccmanncfbdkaaDoor
open Go.RowKit
open Go.ChangeMaps (setBlock)
open Go.MapKept
namespace Sym
/-- entries: the numbers of a set, all true -/
structure MI (es : Array MapEntry) (clock : Nat) (S : Nat → Bool) : Prop where
  ent : ∀ e ∈ es.toList, ∃ k : Nat, e.key = .int .i64 k ∧ e.val = .bool true ∧ S k = true
  all : ∀ k : Nat, S k = true → ∃ e ∈ es.toList, e.key = .int .i64 k
  born : ∀ e ∈ es.toList, e.born < clock
  nodup : (es.toList.map (·.born)).Nodup
def MapX (g : Nat) (es : Array MapEntry) (clock : Nat) (b : Nat) (o : Option Obj) : Prop := b = g ∧ o = some (.map es clock)
def IterX (m since : Nat) (seen : Array Nat) (c : Nat) (_b : Nat) (o : Option Obj) : Prop := o = some (.mapIter (some m) since seen c)
theorem MI.empty : MI #[] 0 (fun _ => false) := ⟨fun e h => by simp at h, fun k h => by simp at h, fun e h => by simp at h, by simp⟩
theorem MI.isKey {es : Array MapEntry} {clock : Nat} {S : Nat → Bool} (h : MI es clock S) : ∀ x ∈ es.toList, IsKey (.int .i64) x.key := fun x hx => by
  obtain ⟨k, e, -, -⟩ := h.ent x hx
  rw [e]; simp [IsKey]
theorem MI.find {es : Array MapEntry} {clock : Nat} {S : Nat → Bool} (h : MI es clock S) (k : Nat) :
    (S k = false ∧ Instr.findNow (.int .i64) (.int .i64 k) es.toList 0 = some none) ∨ ∃ j e, S k = true ∧ Instr.findNow (.int .i64) (.int .i64 k) es.toList 0 = some (some (j, .bool true)) ∧ es[j]? = some e ∧ e.key = .int .i64 k ∧ e.val = .bool true := by
  rcases findNow_spec (d := .int .i64) (k := .int .i64 k) (by simp [IsKey]) es.toList 0 h.isKey with ⟨h1, h2⟩ | ⟨j, e, h1, h2, h3⟩
  · refine .inl ⟨?_, h1⟩
    cases hS : S k with
    | false => rfl
    | true =>
      obtain ⟨e, he, hk⟩ := h.all k hS
      exact absurd hk (h2 e he)
  · have hj : es[j]? = some e := by simpa using h2
    have he : e ∈ es.toList := List.mem_of_getElem? h2
    obtain ⟨k', e1, e2, e3⟩ := h.ent e he
    rw [h3] at e1
    have : k = k' := by
      have e0 : (k : Int) = k' := by simpa using e1
      omega
    subst this
    rw [e2, Nat.zero_add] at h1
    exact .inr ⟨j, e, e3, h1, hj, h3, e2⟩
theorem run_mapGet {P : Program} {w : World} {t kt et : TypeId} {b : Nat} {es : Array MapEntry} {clock : Nat} {S : Nat → Bool} (ht : P.underlying t = some (.map kt et)) (hk : P.underlying kt = some (.int .i64)) (hz : (zeroValue et).run P w = .ok (.bool false) w)
    (hb : w.heap[b]? = some (.map es clock)) (h : MI es clock S) (k : Nat) : (Instr.lookup t (.map (some b)) (.int .i64 k) false).run P w = .ok (.bool (S k)) w := by
  have hc := run_checkKey (P := P) (w := w) (k := .int .i64 k) hk (by simp [IsKey]) es.isEmpty 9999
  rcases h.find k with ⟨h1, h2⟩ | ⟨j, e, h1, h2, -, -, -⟩
  · have hf := run_findKey (P := P) (w := w) hk h2
    rw [h1]
    simp [Instr.lookup, run_underlying ht, MapKept.run_getObj_map hb, hc, hf, hz, Result.andThen]
  · have hf := run_findKey (P := P) (w := w) hk h2
    rw [h1]
    simp [Instr.lookup, run_underlying ht, MapKept.run_getObj_map hb, hc, hf, Result.andThen]
theorem run_mapPut {P : Program} {w : World} {t kt et : TypeId} {b : Nat} {es : Array MapEntry} {clock : Nat} {S : Nat → Bool} (ht : P.underlying t = some (.map kt et)) (hk : P.underlying kt = some (.int .i64))
    (hb : w.heap[b]? = some (.map es clock)) (h : MI es clock S) (k : Nat) : ∃ es' clock', (Instr.mapUpdate t (.map (some b)) (.int .i64 k) (.bool true)).run P w = .ok () (setBlock w b (.map es' clock')) ∧ MI es' clock' (fun j => decide (j = k) || S j) := by
  have hc := run_checkKey (P := P) (w := w) (k := .int .i64 k) hk (by simp [IsKey]) false 9999
  rcases h.find k with ⟨h1, h2⟩ | ⟨j, e, h1, h2, h3, h4, h5⟩
  · have hf := run_findKey (P := P) (w := w) hk h2
    refine ⟨es.push ⟨.int .i64 k, .bool true, clock⟩, clock + 1, ?_, ⟨?_, ?_, ?_, ?_⟩⟩
    · simp [Instr.mapUpdate, run_underlying ht, MapKept.run_getObj_map hb, hc, hf, run_setObj_map _ hb, Result.andThen, setBlock]
    · intro x hx
      simp only [Array.toList_push, List.mem_append, List.mem_singleton] at hx
      rcases hx with hx | rfl
      · obtain ⟨q, q1, q2, q3⟩ := h.ent x hx
        exact ⟨q, q1, q2, by simp [q3]⟩
      · exact ⟨k, rfl, rfl, by simp⟩
    · intro q hq
      simp only [Array.toList_push, List.mem_append, List.mem_singleton]
      by_cases e : q = k
      · subst e; exact ⟨_, .inr rfl, rfl⟩
      · simp only [e, decide_false, Bool.false_or] at hq
        obtain ⟨x, hx, hk'⟩ := h.all q hq
        exact ⟨x, .inl hx, hk'⟩
    · intro x hx
      simp only [Array.toList_push, List.mem_append, List.mem_singleton] at hx
      rcases hx with hx | rfl
      · have := h.born x hx; omega
      · exact Nat.lt_succ_self _
    · simp only [Array.toList_push, List.map_append, List.map_cons, List.map_nil]
      rw [List.nodup_append]
      refine ⟨h.nodup, by simp, fun a ha b' hb' => ?_⟩
      simp only [List.mem_singleton] at hb'
      obtain ⟨x, hx, rfl⟩ := List.mem_map.1 ha
      have := h.born x hx
      omega
  · have hf := run_findKey (P := P) (w := w) hk h2
    have hes : es.modify j (fun e' => { e' with key := .int .i64 k, val := .bool true }) = es := by
      apply Array.ext_getElem?
      intro i
      rw [Array.getElem?_modify]
      split
      · rename_i hij
        subst hij
        rw [h3]
        simp only [Option.map_some]
        rw [← h4, ← h5]
      · rfl
    have hS : (fun q => decide (q = k) || S q) = S := by
      funext q
      by_cases e : q = k
      · subst e; simp [h1]
      · simp [e]
    refine ⟨es, clock, ?_, by rw [hS]; exact h⟩
    have hst := run_keyThatStays (P := P) (w := w) (d := .int .i64) (k := .int .i64 k) (by simp [IsKey])
    have hgd : ((Option.map (fun x => x.key) es[j]?).getD (.int .i64 k)) = .int .i64 k := by rw [h3]; exact h4
    simp [Instr.mapUpdate, run_underlying ht, MapKept.run_getObj_map hb, hc, hf, run_setObj_map _ hb, Result.andThen, setBlock, hgd, hst, hes]
theorem MI.size0 {es : Array MapEntry} {clock : Nat} {S : Nat → Bool} (h : MI es clock S) : es.size = 0 ↔ ∀ k, S k = false := by
  constructor
  · intro h0 k
    cases hS : S k with
    | false => rfl
    | true =>
      obtain ⟨e, he, -⟩ := h.all k hS
      have : es = #[] := Array.eq_empty_of_size_eq_zero h0
      subst this
      simp at he
  · intro h0
    rcases Nat.eq_zero_or_pos es.size with h1 | h1
    · exact h1
    · have hm : es[0] ∈ es.toList := by simp
      obtain ⟨k, -, -, e⟩ := h.ent _ hm
      rw [h0 k] at e; cases e
theorem Sat.setObj {base : Nat} {w0 : Base} {β : Nat → Nat} {a : Act} {w : World} {i : Nat} {Φ Φ' : Nat → Option Obj → Prop} {ob ob' : Obj} {fr : List (Nat × SV)} {rows : List (Nat × Bool × SRow)} {nx n : Nat} (hs : Sat base w0 ⟨fr, rows, nx, n⟩ β a w) (hi : get rows i = some (true, .blob Φ)) (hr : w.heap[β i]? = some ob)
    (hΦ : Φ' (β i) (some ob')) : Sat base w0 ⟨fr, (i, true, .blob Φ') :: rows, nx, n⟩ β a (setBlock w (β i) ob') := by
  obtain ⟨h1, h2, h3, h4⟩ := hs
  obtain ⟨k1, k2, k3, k4⟩ := h4.row i true _ hi
  have k3 : i < nx := k3
  have k4 := k4 rfl
  have hsz : (setBlock w (β i) ob').heap.size = w.heap.size := by simp [setBlock]
  have hother : ∀ j, j ≠ β i → (setBlock w (β i) ob').heap[j]? = w.heap[j]? := fun j hj => (heap_set hr).2 j hj
  have hsame : (setBlock w (β i) ob').heap[β i]? = some ob' := (heap_set hr).1
  refine ⟨h1, h2, h3, ?_⟩
  refine ⟨h4.below.trans ⟨rfl, rfl, rfl, by rw [hsz]; exact Nat.le_refl _, fun k hk => hother _ (by omega)⟩, by rw [hsz]; exact h4.base_le, fun j ow r hj => ?_, fun j hj => by rw [hsz]; exact h4.lt j hj, fun j l r ol rl hj hl hlj => ?_, h4.n0, h4.ext⟩
  · rw [get_cons] at hj
    by_cases e : i = j
    · rw [if_pos e] at hj
      cases hj
      subst e
      exact ⟨⟨by rw [hsz]; exact k1.1, by rw [hsame]; exact hΦ⟩, trivial, k3, fun _ => k4⟩
    · rw [if_neg e] at hj
      obtain ⟨m1, m2, m3, m4⟩ := h4.row j ow r hj
      have hne : β j ≠ β i := h4.inj i j _ ow r hi hj (fun e' => e e'.symm)
      refine ⟨?_, m2, m3, m4⟩
      cases r with
      | cells t2 c2 =>
        simp only [RowIs] at m1 ⊢
        unfold Row at m1 ⊢
        rw [hother _ hne]; exact m1
      | blob Φ =>
        obtain ⟨q1, q2⟩ := m1
        exact ⟨by rw [hsz]; exact q1, by rw [hother _ hne]; exact q2⟩
  · have hj' : ∃ r0, get rows j = some (true, r0) := by
      rw [get_cons] at hj
      by_cases e : i = j
      · subst e; exact ⟨_, hi⟩
      · rw [if_neg e] at hj; exact ⟨_, hj⟩
    have hl' : ∃ o0 r0, get rows l = some (o0, r0) := by
      rw [get_cons] at hl
      by_cases e : i = l
      · subst e; exact ⟨_, _, hi⟩
      · rw [if_neg e] at hl; exact ⟨_, _, hl⟩
    obtain ⟨r0, hj'⟩ := hj'
    obtain ⟨o1, r1, hl'⟩ := hl'
    exact h4.inj j l r0 o1 r1 hj' hl' hlj
section
variable {C : Ctx} {d : Nat} {ty : TypeId} {pos : String} {after : Array Edge} {gd : Option (Nat × Bool)} {fr : List (Nat × SV)} {rows : List (Nat × Bool × SRow)} {nx n : Nat} {K : St → Prop}
theorem opx_makeMap {t : TypeId} (hd : Nat.blt d n = true) (h : ∀ g, K ⟨(d, .any (.map (some g))) :: fr, (nx, true, .blob (MapX g #[] 0)) :: rows, nx + 1, n⟩) :
    OpX C ⟨some d, .makeMap t none, ty, pos, after, gd⟩ ⟨fr, rows, nx, n⟩ K := by
  unfold OpX
  intro β a w hs0 next Q hn
  have hrun : (execOp a.eval ⟨some d, .makeMap t none, ty, pos, after, gd⟩).run C.P w = .ok (.value (.map (some w.heap.size))) (w.alloc (.map #[] 0)) := by
    have := @run_makeMap C.P t w
    simp [execOp, this]
  unfold Oper.wp
  rw [hrun]
  have hs2 := hs0.alloc (r := .blob (MapX w.heap.size #[] 0)) trivial (.map #[] 0) (fun β' hb => ⟨by simp, rfl, (heap_alloc w _).1⟩) rfl
  exact hn _ _ _ _ (h w.heap.size) (hs2.put (d := d) (by simpa [Nat.blt_eq] using hd) (v := .any (.map (some w.heap.size))) rfl)
theorem opx_mapPut {t kt et : TypeId} {x y z : Operand} (i : Nat) {g k : Nat} {es : Array MapEntry} {clock : Nat} {S : Nat → Bool} {op : Op} {kk : Int} (hop : op = .mapUpdate t x y z ∨ op = .insert t x y z) (ht : C.P.underlying t = some (.map kt et)) (hk : C.P.underlying kt = some (.int .i64))
    (hx : ev fr x = some (.any (.map (some g)))) (hy : ev fr y = some (.int .i64 kk)) (hkk : kk = (k : Nat)) (hz : ev fr z = some (.lit true)) (ri : get rows i = some (true, .blob (MapX g es clock))) (hI : MI es clock S)
    (h : ∀ es' clock', MI es' clock' (fun j => decide (j = k) || S j) → K ⟨fr, (i, true, .blob (MapX g es' clock')) :: rows, nx, n⟩) :
    OpX C ⟨none, op, ty, pos, after, gd⟩ ⟨fr, rows, nx, n⟩ K := by
  unfold OpX
  intro β a w hs next Q hn
  subst hkk
  have ex := (ev_sound hs hx).1
  have ey := (ev_sound hs hy).1
  have ez := (ev_sound hs hz).1
  obtain ⟨⟨k1, k2, k3⟩, -, -, -⟩ := hs.mem.row i true _ ri
  obtain ⟨es', clock', hr, hI'⟩ := run_mapPut (P := C.P) (w := w) ht hk (k2 ▸ k3) hI k
  have hrun : (execOp a.eval ⟨none, op, ty, pos, after, gd⟩).run C.P w = .ok .skip (setBlock w g (.map es' clock')) := by
    rcases hop with rfl | rfl <;> simp [execOp, ex, ey, ez, SV.den, hr]
  unfold Oper.wp
  rw [hrun]
  show next (a.put none undef) _
  rw [← k2]
  exact hn _ _ _ _ (h es' clock' hI') (hs.setObj ri k3 ⟨k2, rfl⟩)
theorem opx_mapGet {t kt et : TypeId} {x y : Operand} (i : Nat) {g k : Nat} {es : Array MapEntry} {clock : Nat} {S : Nat → Bool} {kk : Int} (hd : Nat.blt d n = true) (ht : C.P.underlying t = some (.map kt et)) (hk : C.P.underlying kt = some (.int .i64)) (hz : ∀ w, (zeroValue et).run C.P w = .ok (.bool false) w)
    (hx : ev fr x = some (.any (.map (some g)))) (hy : ev fr y = some (.int .i64 kk)) (hkk : kk = (k : Nat)) (ri : get rows i = some (true, .blob (MapX g es clock))) (hI : MI es clock S)
    (h : K ⟨(d, .bool (S k)) :: fr, rows, nx, n⟩) : OpX C ⟨some d, .lookup t x y false, ty, pos, after, gd⟩ ⟨fr, rows, nx, n⟩ K := by
  refine opx_val (.bool (S k)) hd trivial (fun β a w hs => ?_) h
  subst hkk
  have ex := (ev_sound hs hx).1
  have ey := (ev_sound hs hy).1
  obtain ⟨⟨k1, k2, k3⟩, -, -, -⟩ := hs.mem.row i true _ ri
  have := run_mapGet (P := C.P) (w := w) ht hk (hz w) (k2 ▸ k3) hI k
  simp [execOp, ex, ey, SV.den, this]
theorem opx_mapLen {t kt et : TypeId} {x : Operand} (i : Nat) {g : Nat} {es : Array MapEntry} {clock : Nat} (hd : Nat.blt d n = true) (ht : C.P.underlying t = some (.map kt et))
    (hx : ev fr x = some (.any (.map (some g)))) (ri : get rows i = some (true, .blob (MapX g es clock)))
    (h : K ⟨(d, .int .i64 (es.size : Nat)) :: fr, rows, nx, n⟩) : OpX C ⟨some d, .call ⟨.builtin .len, ⟨[x]⟩, ⟨[t]⟩⟩, ty, pos, after, gd⟩ ⟨fr, rows, nx, n⟩ K := by
  refine opx_val (.int .i64 (es.size : Nat)) hd trivial (fun β a w hs => ?_) h
  have ex := (ev_sound hs hx).1
  obtain ⟨⟨k1, k2, k3⟩, -, -, -⟩ := hs.mem.row i true _ ri
  rw [k2] at k3
  unfold execOp
  simp [resolve, invoke, builtin, ex, SV.den, Builtin.len_, run_underlying ht, MapKept.run_getObj_map k3, Result.andThen, goInt]
theorem opx_range {t kt et : TypeId} {x : Operand} (i : Nat) {g : Nat} {es : Array MapEntry} {clock : Nat} (hd : Nat.blt d n = true) (ht : C.P.underlying t = some (.map kt et))
    (hx : ev fr x = some (.any (.map (some g)))) (ri : get rows i = some (true, .blob (MapX g es clock)))
    (h : K ⟨(d, .ptr nx 0) :: fr, (nx, true, .blob (IterX g clock #[] clock)) :: rows, nx + 1, n⟩) :
    OpX C ⟨some d, .range t x, ty, pos, after, gd⟩ ⟨fr, rows, nx, n⟩ K := by
  unfold OpX
  intro β a w hs next Q hn
  have ex := (ev_sound hs hx).1
  obtain ⟨⟨k1, k2, k3⟩, -, -, -⟩ := hs.mem.row i true _ ri
  rw [k2] at k3
  have hrun : (execOp a.eval ⟨some d, .range t x, ty, pos, after, gd⟩).run C.P w = .ok (.value (.pointer (some ⟨w.heap.size, 0, none⟩))) (w.alloc (.mapIter (some g) clock #[] clock)) := by
    have := run_range_map (P := C.P) w t kt et g es clock ht k3
    simp [execOp, ex, SV.den, this]
  unfold Oper.wp
  rw [hrun]
  have hs2 := hs.alloc (r := .blob (IterX g clock #[] clock)) trivial (.mapIter (some g) clock #[] clock) (fun β' hb => ⟨by simp, (heap_alloc w _).1⟩) rfl
  have hs3 := hs2.put (d := d) (v := .ptr nx 0) (by simpa [Nat.blt_eq] using hd) (Nat.lt_succ_self nx)
  have e : SV.den (fun q => if q = nx then w.heap.size else β q) (.ptr nx 0) = .pointer (some ⟨w.heap.size, 0, none⟩) := by simp [SV.den]
  rw [e] at hs3
  exact hn _ _ _ _ h hs3
theorem opx_next {it : Operand} (i j : Nat) {g since c0 : Nat} {seen : Array Nat} {es : Array MapEntry} {clock : Nat} {S : Nat → Bool} (hd : Nat.blt d n = true)
    (hx : ev fr it = some (.ptr j 0)) (ri : get rows i = some (true, .blob (MapX g es clock))) (rj : get rows j = some (true, .blob (IterX g since seen c0))) (hI : MI es clock S) (hsc : clock ≤ since) (hc0 : since ≤ c0)
    (h0 : (∀ x ∈ es.toList, seen.contains x.born = true) → K ⟨(d, .tup [.lit false]) :: fr, rows, nx, n⟩)
    (h1 : ∀ e ∈ es.toList, ∀ k : Nat, e.key = .int .i64 k → S k = true → (leftOf es (seen.push e.born)).size < (leftOf es seen).size → K ⟨(d, .tup [.lit true, .int .i64 k, .lit true]) :: fr, (j, true, .blob (IterX g since (seen.push e.born) clock)) :: rows, nx, n⟩) :
    OpX C ⟨some d, .next it false, ty, pos, after, gd⟩ ⟨fr, rows, nx, n⟩ K := by
  unfold OpX
  intro β a w hs next Q hn
  obtain ⟨ex, -⟩ := ev_sound hs hx
  obtain ⟨⟨k1, k2, k3⟩, -, -, -⟩ := hs.mem.row i true _ ri
  obtain ⟨⟨q1, q2⟩, -, -, -⟩ := hs.mem.row j true _ rj
  rw [k2] at k3
  unfold IterX at q2
  unfold Oper.wp
  rcases run_next_at (P := C.P) w ty (β j) g since c0 seen es clock q2 k3 (fun x hx => Nat.lt_of_lt_of_le (hI.born x hx) hsc) hc0 with ⟨e0, hr⟩ | ⟨e, he, w1, hw1, hr⟩
  · have hrun : (execOp a.eval ⟨some d, .next it false, ty, pos, after, gd⟩).run C.P w = .ok (.value (.tuple #[.bool false])) w := by
      simp [execOp, ex, SV.den, hr]
    rw [hrun]
    exact hn _ β _ w (h0 (all_seen es seen e0)) (hs.put (v := .tup [.lit false]) (by simpa [Nat.blt_eq] using hd) ⟨trivial, trivial⟩)
  · obtain ⟨hm, -⟩ := mem_left he
    obtain ⟨k, f1, f2, f3⟩ := hI.ent e hm
    have hrun : (execOp a.eval ⟨some d, .next it false, ty, pos, after, gd⟩).run C.P w = .ok (.value (.tuple #[.bool true, .int .i64 k, .bool true])) (setBlock w1 (β j) (.mapIter (some g) since (seen.push e.born) clock)) := by
      rw [f1, f2] at hr
      simp [execOp, ex, SV.den, hr]
    rw [hrun]
    have hs1 : Sat C.base C.w0 ⟨fr, rows, nx, n⟩ β a w1 := by
      rcases hw1 with rfl | rfl
      · exact hs
      · exact hs.world hs.mem.drew
    have q3 : w1.heap[β j]? = some (.mapIter (some g) since seen c0) := by rcases hw1 with rfl | rfl <;> exact q2
    have hs2 := hs1.setObj (Φ' := IterX g since (seen.push e.born) clock) rj q3 rfl
    exact hn _ β _ _ (h1 e hm k f1 f3 (left_shrinks es seen e he)) (hs2.put (v := .tup [.lit true, .int .i64 k, .lit true]) (by simpa [Nat.blt_eq] using hd) ⟨trivial, trivial, trivial, trivial⟩)
theorem opx_entry {it : Operand} (i j : Nat) {g since : Nat} {seen : Array Nat} {es : Array MapEntry} {clock : Nat} {S : Nat → Bool} {e : MapEntry} {k : Nat} (hd : Nat.blt d n = true)
    (hx : ev fr it = some (.ptr j 0)) (ri : get rows i = some (true, .blob (MapX g es clock))) (rj : get rows j = some (true, .blob (IterX g since (seen.push e.born) clock))) (hI : MI es clock S) (he : e ∈ es.toList) (hk : e.key = .int .i64 k)
    (h : K ⟨(d, .tup [.int .i64 k, .lit true]) :: fr, rows, nx, n⟩) : OpX C ⟨some d, .entry it, ty, pos, after, gd⟩ ⟨fr, rows, nx, n⟩ K := by
  refine opx_val (.tup [.int .i64 k, .lit true]) hd ⟨trivial, trivial, trivial⟩ (fun β a w hs => ?_) h
  obtain ⟨ex, -⟩ := ev_sound hs hx
  obtain ⟨⟨k1, k2, k3⟩, -, -, -⟩ := hs.mem.row i true _ ri
  obtain ⟨⟨q1, q2⟩, -, -, -⟩ := hs.mem.row j true _ rj
  rw [k2] at k3
  unfold IterX at q2
  have hr := run_entry_at (P := C.P) w (β j) g since seen es clock e q2 k3 he hI.nodup
  obtain ⟨k', f1, f2, f3⟩ := hI.ent e he
  rw [hk, f2] at hr
  simp [execOp, ex, SV.den, SV.dens, hr]
end
end Sym
end Go.Proofs.YtlccmanncfbdkaaDoor
namespace Go.Proofs
open Go.Shelf
def Tryd.lays197_ren : Go.Shelf.Ren := ⟨fun | 197 => 13 | 260 => 15 | n => n, fun | 9 => 9 | 21 => 21 | 3 => 3 | 4 => 4 | 5 => 5 | 105 => 32 | 119 => 41 | 0 => 0 | 46 => 40 | 139 => 44 | 138 => 43 | n => n, fun | 3 => 0 | 4 => 1 | n => n⟩
theorem Tryd.lays197 : Go.Proofs.Lays.n197 Tryd.prog Tryd.lays197_ren := {
  mixed := by kernel_rfl
  f197 := Tryd.func13.trans (congrArg some (by kernel_rfl))
  f260 := Tryd.func15.trans (congrArg some (by kernel_rfl))
  t0 := Tryd.underlying0
  a0 := Tryd.isAgg0
  z0 := Tryd.sizeOf0
  v0 := Tryd.zeroValue0
  t3 := Tryd.underlying3
  a3 := Tryd.isAgg3
  z3 := Tryd.sizeOf3
  v3 := Tryd.zeroValue3
  t4 := Tryd.underlying4
  a4 := Tryd.isAgg4
  z4 := Tryd.sizeOf4
  v4 := Tryd.zeroValue4
  t5 := Tryd.underlying5
  a5 := Tryd.isAgg5
  z5 := Tryd.sizeOf5
  v5 := Tryd.zeroValue5
  t9 := Tryd.underlying9
  a9 := Tryd.isAgg9
  z9 := Tryd.sizeOf9
  v9 := Tryd.zeroValue9
  t21 := Tryd.underlying21
  a21 := Tryd.isAgg21
  z21 := Tryd.sizeOf21
  v21 := Tryd.zeroValue21
  t46 := Tryd.underlying40
  a46 := Tryd.isAgg40
  z46 := Tryd.sizeOf40
  v46 := Tryd.zeroValue40
  t105 := Tryd.underlying32
  a105 := Tryd.isAgg32
  z105 := Tryd.sizeOf32
  v105 := Tryd.zeroValue32
  t119 := Tryd.underlying41
  a119 := Tryd.isAgg41
  z119 := Tryd.sizeOf41
  t138 := Tryd.underlying43
  a138 := Tryd.isAgg43
  z138 := Tryd.sizeOf43
  v138 := Tryd.zeroValue43
  t139 := Tryd.underlying44
  a139 := Tryd.isAgg44
  z139 := Tryd.sizeOf44
  v139 := Tryd.zeroValue44
  g3 := by kernel_rfl
  g4 := by kernel_rfl }
open Go.RowKit Go.Lib in
/-- **unicode/utf8.DecodeRuneInString AT EVERY STRING.** (LAID: no walk: one application.) -/
theorem Tryd.utf8_DecodeRuneInString (s : ByteArray) (w : World) (hT : Lib.Utf8Tabs 0 1 w) :
    Calls Tryd.prog 13 #[.string s] w fun e w' => e = .returned (.tuple #[.int .i32 (Lib.decodeGo s).1, .int .i64 (Lib.decodeGo s).2]) ∧ Below w.heap.size w w' := Any.utf8_DecodeRuneInString Tryd.lays197 s w hT
end Go.Proofs
