/- A walk that reckons: what is known of one block is told of another number; slices that are arguments; calls that may answer with an argument. Products, quotients, halves and common divisors, digit by digit. Numbers as texts. Fractions. A walk that reckons: calls that answer with several slices of their own making, among others; fractions. A walk that reckons: numbers kept free ahead of a drawn region; one's own cells told of another number. A walk that reckons: sets of numbers as maps to true, made by the function itself; ranging over them. A walk that reckons: a callee that writes to blocks of its caller, walked in place, in any region; a block of one's own under another number. A walk that reckons: the rest of a slice; a block of one's own under another number, all others forgotten. A walk that reckons: blocks that are laid and left alone from then on (slices within slices): the walk's first world moves on. A walk that reckons: whole structs read from a row and written to a row of one's own. A walk that reckons: fractions whose slices may be arguments'. A walk that reckons: fractions whose slices are new to the function. A walk that reckons: rows doubled, own rows shared ahead of a call. A walk that reckons: a string turned into bytes. Bits of int. A walk that reckons: bits. A walk that reckons: a fraction of slices and a yes or no. -/
import Derived.Test.YtnbahdnjcdimgaaDoorMGC
import Derived.Lib.ItoaNum
import Derived.Maps.RangeRun
import Derived.MapKept
import Derived.Lib.ConvBytes
import Derived.Lib.SmallJoins
import Derived.Laws.BitsLemmas
import Derived.Laws.BitsAllLaws
set_option linter.unusedSimpArgs false
set_option linter.unusedVariables false
namespace Go.Proofs.YtnbahdnjcdimgaaDoor
open Go.RowKit
namespace Sym
open ExP (nd)
theorem Sat.copy {base : Nat} {w0 : Base} {β : Nat → Nat} {a : Act} {w : World} {fr : List (Nat × SV)} {rows : List (Nat × Bool × SRow)} {nx n : Nat} (i j : Nat) {Φ : Nat → Option Obj → Prop} (hs : Sat base w0 ⟨fr, rows, nx, n⟩ β a w) (hj : get rows j = some (false, .blob Φ)) (hi : i < nx) (hij : i ≠ j) (hn0 : w0.n0 ≤ i)
    (hno : (mentF i fr || mentR i rows) = false) : Sat base w0 ⟨fr, (i, false, .blob Φ) :: rows, nx, n⟩ (fun q => if q = i then β j else β q) a w := by
  obtain ⟨h1, h2, h3, h4⟩ := hs
  simp only [Bool.or_eq_false_iff] at hno
  have hβ : ∀ q, q ≠ i → (fun q => if q = i then β j else β q) q = β q := fun q hq => by dsimp only; rw [if_neg hq]
  obtain ⟨k1, -, k3, -⟩ := h4.row j _ _ hj
  refine ⟨h1, h2, fun s v hv => ?_, ?_⟩
  · obtain ⟨e1, e2⟩ := h3 s v hv
    exact ⟨by rw [e1, ment_den hβ v (mentF_get fr hno.1 hv)], e2⟩
  refine ⟨h4.below, h4.base_le, fun q o r hq => ?_, fun q hq => ?_, fun q p r o r' hq hp hpq => ?_, h4.n0, fun q hq => ?_, h4.pr.ren (fun p r hp hne => by rw [get_cons, if_neg (fun e => hne e.symm)] at hp; exact ⟨r, hp⟩) (fun r hp => by rw [get_cons, if_pos rfl] at hp; cases hp)⟩
  · rw [get_cons] at hq
    by_cases e : i = q
    · rw [if_pos e] at hq
      cases hq
      subst e
      try dsimp only
      rw [if_pos rfl]
      exact ⟨k1, trivial, hi, fun e => by cases e⟩
    · rw [if_neg e] at hq
      obtain ⟨m1, m2, m3, m4⟩ := h4.row q o r hq
      try dsimp only
      rw [if_neg (fun e' => e e'.symm)]
      refine ⟨?_, m2, m3, m4⟩
      cases r with
      | cells t cs => simp only [RowIs] at m1 ⊢; rw [ments_den hβ cs (mentR_get rows hno.2 hq)]; exact m1
      | blob Φ => exact m1
  · have hq : q < nx := hq
    try dsimp only
    split
    · exact h4.lt j k3
    · exact h4.lt q hq
  · rw [get_cons] at hq hp
    by_cases e : i = q
    · rw [if_pos e] at hq; cases hq
    · rw [if_neg e] at hq
      have e' : ¬ q = i := fun e' => e e'.symm
      try dsimp only
      rw [if_neg e']
      by_cases e2 : i = p
      · rw [if_pos e2.symm]
        refine h4.inj q j r false _ hq hj (fun e3 => ?_)
        subst e3
        rw [hj] at hq; cases hq
      · rw [if_neg e2] at hp
        have e4 : ¬ p = i := fun e' => e2 e'.symm
        rw [if_neg e4]
        exact h4.inj q p r o r' hq hp hpq
  · have hq : q < w0.n0 := hq
    try dsimp only
    rw [if_neg (by omega)]; exact h4.ext q hq
/-- a slice of one's own is no longer written -/
theorem Sat.share {base : Nat} {w0 : Base} {β : Nat → Nat} {a : Act} {w : World} {fr : List (Nat × SV)} {rows : List (Nat × Bool × SRow)} {nx n : Nat} (i : Nat) {e : TypeId} {sz g m cap : Nat} {xs ys : List Value} (hs : Sat base w0 ⟨fr, rows, nx, n⟩ β a w) (hi : get rows i = some (true, .blob (OwnS e sz g m cap xs)))
    (hp : ∀ (j : Nat) (v : Value), ys[j]? = some v → xs[j]? = some v) : Sat base w0 ⟨fr, (i, false, .blob (SlF base (some ⟨g, 0, none⟩) ys)) :: rows, nx, n⟩ β a w := by
  obtain ⟨h1, h2, h3, h4⟩ := hs
  obtain ⟨k1, -, k3, k4⟩ := h4.row i _ _ hi
  refine ⟨h1, h2, h3, ⟨h4.below, h4.base_le, fun q o r hq => ?_, h4.lt, fun q p r o r' hq hp' hpq => ?_, h4.n0, h4.ext, h4.pr.same fun q r hq => by
    rw [get_cons] at hq
    by_cases e0 : i = q
    · rw [if_pos e0] at hq; cases hq
    · rw [if_neg e0] at hq; exact ⟨q, r, hq, rfl⟩⟩⟩
  · rw [get_cons] at hq
    by_cases e0 : i = q
    · rw [if_pos e0] at hq
      cases hq
      subst e0
      refine ⟨⟨k1.1, fun W hW j v hj => ?_, fun _ => k4 rfl⟩, trivial, k3, fun e => by cases e⟩
      have hg : β i = g := k1.2.1
      have ho : OwnS e sz g m cap xs (β i) W.heap[β i]? := by rw [hW]; exact k1.2
      exact ⟨_, rfl, hg.symm, ho.cell j v (hp j v hj)⟩
    · rw [if_neg e0] at hq
      exact h4.row q o r hq
  · have hq' : get rows q = some (true, r) := by
      rw [get_cons] at hq
      by_cases e0 : i = q
      · rw [if_pos e0] at hq; cases hq
      · rw [if_neg e0] at hq; exact hq
    have hp2 : ∃ o1 r1, get rows p = some (o1, r1) := by
      rw [get_cons] at hp'
      by_cases e0 : i = p
      · subst e0; exact ⟨_, _, hi⟩
      · rw [if_neg e0] at hp'; exact ⟨_, _, hp'⟩
    obtain ⟨o1, r1, hp2⟩ := hp2
    exact h4.inj q p r o1 r1 hq' hp2 hpq
theorem loop_share {C : Ctx} {c : Code} {k : List It} {fr : List (Nat × SV)} {rows : List (Nat × Bool × SRow)} {nx n : Nat} (i : Nat) {e : TypeId} {sz g m cap : Nat} {xs : List Value} (ys : List Value) (hi : get rows i = some (true, .blob (OwnS e sz g m cap xs)))
    (hp : ∀ (j : Nat) (v : Value), ys[j]? = some v → xs[j]? = some v) (h : m ≤ cap → LoopN C c k ⟨fr, (i, false, .blob (SlF C.base (some ⟨g, 0, none⟩) ys)) :: rows, nx, n⟩) : LoopN C c k ⟨fr, rows, nx, n⟩ := by
  unfold LoopN at h ⊢
  intro β a w hs
  have hc : m ≤ cap := by
    obtain ⟨h1, -⟩ := hs.mem.row i _ _ hi
    obtain ⟨-, cur, -, h, -⟩ := h1.2
    exact h
  exact h hc β a w (hs.share i hi hp)
end Sym
end Go.Proofs.YtnbahdnjcdimgaaDoor
namespace Go.Proofs.YtnbahdnjcdimgaaDoor
namespace ExP
/-- products, the program's -/
structure TimesI (b x y lb i k c V : Nat) : Prop where
  eq : V + c * b ^ (i + k) = (x % b ^ i) * y + dig b i x * b ^ i * (y % b ^ k)
  lt : V < b ^ (i + lb)
  bit : c < b
structure CarryI (b x y i k c S : Nat) : Prop where
  eq : S + c * b ^ k = ((x % b ^ i) * y) % b ^ k + dig b i x * b ^ i * (y % b ^ (k - i))
  lt : S < b ^ k
/-- the quotient's digits from i on -/
structure DivI (b x m i V r : Nat) : Prop where
  v : V = x / b ^ i / m * b ^ i
  r : r = x / b ^ i % m
end ExP
end Go.Proofs.YtnbahdnjcdimgaaDoor
namespace Go.Proofs.YtnbahdnjcdimgaaDoor
namespace ExP
abbrev Str := List UInt8
end ExP
end Go.Proofs.YtnbahdnjcdimgaaDoor
namespace Go.Proofs.YtnbahdnjcdimgaaDoor
namespace ExP
structure Num where
  m : Bool
  n : Nat
  d : Nat
abbrev Fr := Str × Str
def signP (m : Bool) (s : Str) : Str := if m = true then 45 :: s else s
def redN (x : Num) : Nat := x.n / Nat.gcd x.n x.d
def redD (x : Num) : Nat := x.d / Nat.gcd x.n x.d
def overP (x : Num) : Prop := 300 < (Lib.decDigits (redN x)).length ∨ 300 < (Lib.decDigits (redD x)).length
instance (x : Num) : Decidable (overP x) := by unfold overP; infer_instance
def writeF (x : Num) : Fr := if x.n = 0 then ([48], [49]) else if overP x then ([], []) else (signP x.m (Lib.decDigits (redN x)), Lib.decDigits (redD x))
def writeE (x : Num) : Int := if x.n = 0 then 0 else if overP x then 19 else 0
end ExP
end Go.Proofs.YtnbahdnjcdimgaaDoor
namespace Go.Proofs.YtnbahdnjcdimgaaDoor
open Go.RowKit
namespace Sym
open ExP (nd)
def addR (base : Nat) : Nat → List (Option Addr × List Value) → List (Nat × Bool × SRow) → List (Nat × Bool × SRow)
  | _, [], rows => rows
  | nx, (a, xs) :: r, rows => addR base (nx + 1) r ((nx, false, .blob (SlF base a xs)) :: rows)
theorem Sat.learns {base : Nat} {w0 : Base} {act : Act} {w w' : World} {fr : List (Nat × SV)} {n : Nat} (h0 : 0 < base) (hb : base ≤ w.heap.size) (hb' : w.heap.size ≤ w'.heap.size) : ∀ (l : List (Option Addr × List Value)) (rows : List (Nat × Bool × SRow)) (nx : Nat) (β : Nat → Nat),
    Sat base w0 ⟨fr, rows, nx, n⟩ β act w' → (∀ i r, get rows i = some (true, r) → base ≤ β i ∧ β i < w.heap.size) → (∀ p ∈ l, SlAt p.1 p.2 w' ∧ FreshX p.1 p.2 w) →
    ∃ β', Sat base w0 ⟨fr, addR base nx l rows, nx + l.length, n⟩ β' act w' ∧ ∀ i, i < nx → β' i = β i
  | [], rows, nx, β, hs, _, _ => ⟨β, hs, fun _ _ => rfl⟩
  | (a, xs) :: r, rows, nx, β, hs, ho, hl => by
    obtain ⟨h1, h2⟩ := hl (a, xs) (by simp)
    obtain ⟨b, g1, g2, g3⟩ := h1.toF h2 hb h0 (by omega)
    have hlt : ∀ i o q, get rows i = some (o, q) → i < nx := fun i o q hi => (hs.mem.row i o q hi).2.2.1
    have hs2 := hs.learn (o := false) g2 g3 (fun e => by cases e) (fun i q hi => by have := ho i q hi; omega)
    obtain ⟨β', k1, k2⟩ := Sat.learns h0 hb hb' r _ (nx + 1) _ hs2 (fun i q hi => by
      rw [get_cons] at hi
      by_cases e0 : nx = i
      · rw [if_pos e0] at hi; cases hi
      · rw [if_neg e0] at hi
        have := hlt _ _ _ hi
        rw [if_neg (by omega)]
        exact ho i q hi) (fun p hp => hl p (by simp [hp]))
    refine ⟨β', ?_, fun i hi => ?_⟩
    · have e : nx + ((a, xs) :: r).length = nx + 1 + r.length := by simp only [List.length_cons]; omega
      rw [e]; exact k1
    · rw [k2 i (by omega)]; rw [if_neg (by omega)]
/-- a call that answers with slices of its own making, among others -/
theorem callSls {C : Ctx} {d : Nat} {f : FuncId} {args : List SV} {fr : List (Nat × SV)} {rows : List (Nat × Bool × SRow)} {nx n : Nat} {K : St → Prop} {T : Type}
    (V : T → SV) (L : T → List (Option Addr × List Value)) (h0 : 0 < C.base)
    (he : entersB C.P f = true) (hd : Nat.blt d n = true) (hv : ∀ t, (V t).ok nx) (hc : ∀ β w, Mem C.base C.w0 rows nx β w → Calls C.P f (SV.dens β args).toArray w fun e w' => Below w.heap.size w w' ∧ ∃ t, e = .returned ((V t).den β) ∧ ∀ p ∈ L t, SlAt p.1 p.2 w' ∧ FreshX p.1 p.2 w)
    (h : ∀ t, (∀ p ∈ L t, p.2 ≠ [] → ∃ ad, p.1 = some ad) → K ⟨(d, V t) :: fr, addR C.base nx (L t) rows, nx + (L t).length, n⟩) : CallX C (some d) f args ⟨fr, rows, nx, n⟩ K := by
  unfold CallX
  refine ⟨he, fun β a w hs => (hc β w hs.mem).mono ?_⟩
  rintro e w' ⟨hb, t, rfl, hl⟩
  have hm := hs.mem
  have hs' : Sat C.base C.w0 ⟨fr, rows, nx, n⟩ β a w' := ⟨hs.defers, hs.size, hs.slot, hm.belowNext hb⟩
  obtain ⟨β', k1, k2⟩ := Sat.learns (w := w) h0 hm.base_le hb.size (L t) rows nx β hs' (fun i r hi => ⟨(hm.row i true r hi).2.2.2 rfl, hm.lt i (hm.row i true r hi).2.2.1⟩) hl
  have hs3 := k1.put (d := d) (by simpa [Nat.blt_eq] using hd) (SV.ok_mono (Nat.le_add_right _ _) _ (hv t))
  have e1 : (V t).den β' = (V t).den β := SV.den_ext (n := nx) k2 _ (hv t)
  rw [e1] at hs3
  exact ⟨_, _, _, rfl, h t (fun p hp hx => (hl p hp).1.some hx), hs3⟩
end Sym
open Sym
/-- a fraction as a struct of two slices -/
structure FrV where
  m : Bool
  n : Nat
  d : Nat
  a : Option Addr
  c : Nat
  b : Option Addr
  e : Nat
def FrV.num (x : FrV) : ExP.Num := ⟨x.m, x.n, x.d⟩
def FrV.val (b : Nat) (x : FrV) : Value := .agg #[.bool x.m, .slice x.a (ExP.nd b x.n) x.c, .slice x.b (ExP.nd b x.d) x.e]
structure FrCap (b : Nat) (x : FrV) : Prop where
  an : x.a = none → x.c = 0
  bn : x.b = none → x.e = 0
  cn : ExP.nd b x.n ≤ x.c
  cd : ExP.nd b x.d ≤ x.e
structure FrIn (k : IntKind) (b : Nat) (x : FrV) (w : World) : Prop where
  sn : SlAt x.a (nv k b x.n) w
  sd : SlAt x.b (nv k b x.d) w
  cap : FrCap b x
theorem FrIn.below {k : IntKind} {b : Nat} {x : FrV} {w w' : World} (h : FrIn k b x w) (hb : Below w.heap.size w w') : FrIn k b x w' := ⟨h.sn.below hb, h.sd.below hb, h.cap⟩
def FrV.L (k : IntKind) (b : Nat) (x : FrV) : List (Option Addr × List Value) := [(x.a, nv k b x.n), (x.b, nv k b x.d)]
section
variable {C : Ctx} {d : Nat} {f : FuncId} {args : List SV} {fr : List (Nat × SV)} {rows : List (Nat × Bool × SRow)} {nx n : Nat} {K : St → Prop}
end
end Go.Proofs.YtnbahdnjcdimgaaDoor
namespace Go.Proofs.YtnbahdnjcdimgaaDoor
open Go.RowKit
namespace Sym
theorem Sat.reserve {base : Nat} {w0 : Base} {β : Nat → Nat} {a : Act} {w : World} {fr : List (Nat × SV)} {rows : List (Nat × Bool × SRow)} {nx n : Nat} (m : Nat) (h0 : 0 < base) (hs : Sat base w0 ⟨fr, rows, nx, n⟩ β a w) :
    Sat base w0 ⟨fr, rows, nx + m, n⟩ (fun q => if q < nx then β q else 0) a w := by
  obtain ⟨h1, h2, h3, h4⟩ := hs
  have hbe : ∀ i, i < nx → (fun q => if q < nx then β q else 0) i = β i := fun i hi => by dsimp only; rw [if_pos hi]
  refine ⟨h1, h2, fun s v hv => ?_, h4.below, h4.base_le, fun i o r hi => ?_, fun q hq => ?_, fun i j r o r' hi hj hji => ?_, Nat.le_trans h4.n0 (Nat.le_add_right _ _), fun q hq => ?_, h4.pr.same fun q r hq => ⟨q, r, hq, by have h9 : q < nx := (h4.row q _ _ hq).2.2.1; rw [if_pos h9]⟩⟩
  · obtain ⟨k1, k2⟩ := h3 s v hv
    exact ⟨by rw [k1, SV.den_ext hbe v k2], SV.ok_mono (Nat.le_add_right _ _) v k2⟩
  · obtain ⟨k1, k2, k3, k4⟩ := h4.row i o r hi
    have k3 : i < nx := k3
    try dsimp only
    rw [if_pos k3]
    exact ⟨RowIs_ext hbe k2 k1, SRow.ok_mono (Nat.le_add_right _ _) r k2, by omega, k4⟩
  · try dsimp only
    split
    · exact h4.lt q (by assumption)
    · have := h4.base_le; omega
  · have ki : i < nx := (h4.row i _ _ hi).2.2.1
    have kj : j < nx := (h4.row j _ _ hj).2.2.1
    try dsimp only
    rw [if_pos ki, if_pos kj]
    exact h4.inj i j r o r' hi hj hji
  · have h5 : w0.n0 ≤ nx := h4.n0
    have hq : q < w0.n0 := hq
    try dsimp only
    rw [if_pos (by omega)]; exact h4.ext q hq
/-- rows but one -/
def del (j : Nat) : List (Nat × Bool × SRow) → List (Nat × Bool × SRow)
  | [] => []
  | (i, x) :: r => match Nat.beq i j with
    | true => del j r
    | false => (i, x) :: del j r
theorem get_del {j : Nat} : ∀ (rows : List (Nat × Bool × SRow)) (q : Nat), get (del j rows) q = if q = j then none else get rows q
  | [], q => by simp [del, get]
  | (i, x) :: r, q => by
    have ih := get_del (j := j) r q
    unfold del
    cases h : Nat.beq i j with
    | true =>
      have := Nat.eq_of_beq_eq_true h
      subst this
      dsimp only
      rw [ih, get_cons]
      by_cases e : q = i
      · rw [if_pos e, if_pos e]
      · rw [if_neg e, if_neg e, if_neg (fun e' => e e'.symm)]
    | false =>
      have hne := Nat.ne_of_beq_eq_false h
      dsimp only
      rw [get_cons, get_cons, ih]
      by_cases e : i = q
      · subst e; rw [if_pos rfl, if_neg hne]; simp
      · rw [if_neg e]; by_cases e2 : q = j
        · simp [e2]
        · simp [e2, e]
theorem Sat.own {base : Nat} {w0 : Base} {β : Nat → Nat} {a : Act} {w : World} {fr : List (Nat × SV)} {rows : List (Nat × Bool × SRow)} {nx n : Nat} (s i j : Nat) {t : TypeId} {cs : List SV} (hs : Sat base w0 ⟨fr, rows, nx, n⟩ β a w)
    (hsl : get fr s = some (.ptr j 0)) (hj : get rows j = some (true, .cells t cs)) (hi : i < nx) (hij : i ≠ j) (hn0 : w0.n0 ≤ i) (hgi : get rows i = none)
    (hno : (mentF i fr || mentR i rows) = false) : Sat base w0 ⟨(s, .ptr i 0) :: fr, (i, true, .cells t cs) :: del j rows, nx, n⟩ (fun q => if q = i then β j else β q) a w := by
  obtain ⟨h1, h2, h3, h4⟩ := hs
  simp only [Bool.or_eq_false_iff] at hno
  have hβ : ∀ q, q ≠ i → (fun q => if q = i then β j else β q) q = β q := fun q hq => by dsimp only; rw [if_neg hq]
  obtain ⟨k1, k2, k3, k4⟩ := h4.row j _ _ hj
  refine ⟨h1, h2, fun s' v hv => ?_, ?_⟩
  · rw [get_cons] at hv
    by_cases e : s = s'
    · rw [if_pos e] at hv
      cases hv
      subst e
      obtain ⟨e1, e2⟩ := h3 s _ hsl
      refine ⟨?_, hi⟩
      rw [e1]
      simp [SV.den]
    · rw [if_neg e] at hv
      obtain ⟨e1, e2⟩ := h3 s' v hv
      exact ⟨by rw [e1, ment_den hβ v (mentF_get fr hno.1 hv)], e2⟩
  refine ⟨h4.below, h4.base_le, fun q o r hq => ?_, fun q hq => ?_, fun q p r o r' hq hp hpq => ?_, h4.n0, fun q hq => ?_, h4.pr.ren (fun p r hp hne => by
    rw [get_cons, if_neg (fun e => hne e.symm), get_del] at hp
    split at hp
    · cases hp
    · exact ⟨r, hp⟩) (fun r _ => ⟨j, _, hj, rfl⟩)⟩
  · rw [get_cons] at hq
    by_cases e : i = q
    · rw [if_pos e] at hq
      cases hq
      subst e
      try dsimp only
      rw [if_pos rfl]
      refine ⟨?_, k2, hi, k4⟩
      simp only [RowIs] at k1 ⊢; rw [ments_den hβ cs (mentR_get rows hno.2 hj)]; exact k1
    · rw [if_neg e, get_del] at hq
      split at hq
      · cases hq
      obtain ⟨m1, m2, m3, m4⟩ := h4.row q o r hq
      try dsimp only
      rw [if_neg (fun e' => e e'.symm)]
      refine ⟨?_, m2, m3, m4⟩
      cases r with
      | cells t cs => simp only [RowIs] at m1 ⊢; rw [ments_den hβ cs (mentR_get rows hno.2 hq)]; exact m1
      | blob Φ => exact m1
  · have hq : q < nx := hq
    try dsimp only
    split
    · exact h4.lt j k3
    · exact h4.lt q hq
  · rw [get_cons] at hq hp
    by_cases e : i = q
    · rw [if_neg (fun e' => hpq (e'.symm.trans e)), get_del] at hp
      split at hp
      · cases hp
      rename_i hpj
      try dsimp only
      rw [if_pos e.symm, if_neg (fun e' => hpq (e'.trans e))]
      exact h4.inj j p _ o r' hj hp hpj
    · rw [if_neg e, get_del] at hq
      split at hq
      · cases hq
      rename_i hqj
      have e' : ¬ q = i := fun e' => e e'.symm
      try dsimp only
      rw [if_neg e']
      by_cases e2 : i = p
      · rw [if_pos e2.symm]
        exact h4.inj q j r _ _ hq hj (fun e3 => hqj e3.symm)
      · rw [if_neg e2, get_del] at hp
        split at hp
        · cases hp
        have e4 : ¬ p = i := fun e' => e2 e'.symm
        rw [if_neg e4]
        exact h4.inj q p r o r' hq hp hpq
  · have hq : q < w0.n0 := hq
    try dsimp only
    rw [if_neg (by omega)]; exact h4.ext q hq
def noneB : List (Nat × Bool × SRow) → Nat → Bool
  | [], _ => true
  | (i, _) :: r, q => !Nat.beq i q && noneB r q
theorem noneB_get : ∀ (rows : List (Nat × Bool × SRow)) (q : Nat), noneB rows q = true → get rows q = none
  | [], _, _ => rfl
  | (i, x) :: r, q, h => by
    simp only [noneB, Bool.and_eq_true, Bool.not_eq_true'] at h
    rw [get_cons, if_neg (Nat.ne_of_beq_eq_false h.1)]
    exact noneB_get r q h.2
end Sym
end Go.Proofs.YtnbahdnjcdimgaaDoor
namespace Go.Proofs.YtnbahdnjcdimgaaDoor
open Go.RowKit
open Go.ChangeMaps (setBlock)
open Go.MapKept
namespace Sym
/-- entries: the numbers of a set, all true -/
structure MI (es : Array MapEntry) (clock : Nat) (S : Nat → Bool) : Prop where
  ent : ∀ e ∈ es.toList, ∃ k : Nat, e.key = .int .i64 k ∧ e.val = .bool true ∧ S k = true
  all : ∀ k : Nat, S k = true → ∃ e ∈ es.toList, e.key = .int .i64 k
  born : ∀ e ∈ es.toList, e.born < clock
  nodup : (es.toList.map (·.born)).Nodup
theorem MI.empty : MI #[] 0 (fun _ => false) := ⟨fun e h => by simp at h, fun k h => by simp at h, fun e h => by simp at h, by simp⟩
section
variable {C : Ctx} {d : Nat} {ty : TypeId} {pos : String} {after : Array Edge} {gd : Option (Nat × Bool)} {fr : List (Nat × SV)} {rows : List (Nat × Bool × SRow)} {nx n : Nat} {K : St → Prop}
end
end Sym
end Go.Proofs.YtnbahdnjcdimgaaDoor
namespace Go.Proofs.YtnbahdnjcdimgaaDoor
open Go.RowKit
namespace Sym
theorem inlineX {C : Ctx} (hE : EnvOK C.P C.E) {d : Nat} {f : FuncId} {args : List SV} {fr : List (Nat × SV)} {rows : List (Nat × Bool × SRow)} {nx n : Nat} {K : St → Prop}
    {fn : Func} {c : Code} {res : List ResultVar} {nt : Nat} (hf : C.P.funcs[f]? = some fn) (hb : fn.body = some c) (hres' : fn.results = res.toArray) (hnt : fn.ntmps = nt) (he : entersB C.P f = true) (hd : Nat.blt d n = true) (hv : SV.oks nx args) (hlen : args.length ≤ nt)
    {T : Type} (V : T → SV) (Rw : T → List (Nat × Bool × SRow)) (sc sb : List Nat) (fuel : Nat)
    (h1 : ∀ (R' : Ending → World → Prop) (β0 : Nat → Nat), (∀ (t : T) (st' : St) (v : SV), wkV v st' (V t) (Rw t) nx → RetN ⟨C.P, C.E, C.base, ⟨C.w0.w, β0, nx, C.w0.pr⟩, fn, res, R', sc, sb⟩ st' v) → wpS ⟨C.P, C.E, C.base, ⟨C.w0.w, β0, nx, C.w0.pr⟩, fn, res, R', sc, sb⟩ fuel [.code c] ⟨argSlots 0 args, rows, nx, nt⟩)
    (h2 : ∀ t, K ⟨(d, V t) :: fr, Rw t, nx, n⟩) : CallX C (some d) f args ⟨fr, rows, nx, n⟩ K := by
  unfold CallX
  refine ⟨he, fun β a w hs => ?_⟩
  let R' : Ending → World → Prop := fun e w' => ∃ t β', e = .returned ((V t).den β') ∧ (V t).ok nx ∧ Mem C.base ⟨C.w0.w, β, nx, C.w0.pr⟩ (Rw t) nx β' w'
  have hm := hs.mem
  have run : Calls C.P f (SV.dens β args).toArray w R' := by
    refine calls_of_wp hf hb ?_
    refine wpS_sound (C := ⟨C.P, C.E, C.base, ⟨C.w0.w, β, nx, C.w0.pr⟩, fn, res, R', sc, sb⟩) hE hres' fuel [.code c] _ β _ w (h1 R' β ?_) ?_
    · intro t st' v hw
      obtain ⟨w1, w2, w3, w4⟩ := hw
      have hle : nx ≤ st'.next := Nat.le_of_ble_eq_true w1
      unfold RetN
      intro β' w' hm'
      refine ⟨t, β', ?_, w3, ?_⟩
      · rw [eqSV_sound β' v _ w2]
      · refine ⟨hm'.below, hm'.base_le, fun i o r hi => ?_, fun i hi => hm'.lt i (Nat.lt_of_lt_of_le hi hle), fun i j r oj rj hi hj hji => ?_, Nat.le_refl _, hm'.ext, hm'.pr.same fun i r hi => by obtain ⟨_, _, r', g3, _⟩ := wkR_sound w4 hi; exact ⟨i, r', g3, rfl⟩⟩
        · obtain ⟨g1, g2, r', g3, g4⟩ := wkR_sound w4 hi
          obtain ⟨m1, m2, m3, m4⟩ := hm'.row i o r' g3
          exact ⟨g4 _ _ _ m1, g2, g1, m4⟩
        · obtain ⟨g1, g2, r', g3, g4⟩ := wkR_sound w4 hi
          obtain ⟨_, _, rj', f3, _⟩ := wkR_sound w4 hj
          exact hm'.inj i j r' oj rj' g3 f3 hji
    · refine ⟨rfl, ?_, fun s v hs' => ?_, hm.below, hm.base_le, hm.row, hm.lt, hm.inj, Nat.le_refl _, fun i _ => rfl, hm.pr⟩
      · simp [SV.dens_len, hnt]; omega
      · obtain ⟨_, h2⟩ := argSlots_get args 0 hs'
        have h2 : args[s]? = some v := by simpa using h2
        refine ⟨?_, SV.oks_get args s v hv h2⟩
        have hs' : s < args.length := (List.getElem?_eq_some_iff.1 h2).1
        rw [Array.getD_eq_getD_getElem?, Array.getElem?_append_left (by simpa [SV.dens_len] using hs')]
        simp [SV.dens_get, h2]
  refine run.mono ?_
  rintro e w' ⟨t, β', rfl, hok, hm'⟩
  have hext : ∀ i, i < nx → β' i = β i := fun i hi => hm'.ext i hi
  have hs' : Sat C.base C.w0 ⟨fr, Rw t, nx, n⟩ β' a w' := by
    refine ⟨hs.defers, hs.size, fun s v hv' => ?_, hm'.below, hm'.base_le, hm'.row, hm'.lt, hm'.inj, hm.n0, fun i hi => ?_, hm'.pr⟩
    · obtain ⟨q1, q2⟩ := hs.slot s v hv'
      exact ⟨by rw [q1, SV.den_ext hext v q2], q2⟩
    · rw [hext i (Nat.lt_of_lt_of_le hi hm.n0)]; exact hm.ext i hi
  exact ⟨_, _, β', rfl, h2 t, hs'.put (by simpa [Nat.blt_eq] using hd) hok⟩
/-- a block of one's own gets the number i; of the others only q's is kept -/
theorem Sat.take {base : Nat} {w0 : Base} {β : Nat → Nat} {a : Act} {w : World} {fr : List (Nat × SV)} {rows : List (Nat × Bool × SRow)} {nx n : Nat} (i j q : Nat) {Φ Ψ : Nat → Option Obj → Prop} {o : Bool} (hs : Sat base w0 ⟨fr, rows, nx, n⟩ β a w) (hj : get rows j = some (true, .blob Φ)) (hq : get rows q = some (o, .blob Ψ))
    (hi : i < nx) (hqi : q ≠ i) (hqj : q ≠ j) (hn0 : w0.n0 ≤ i) (hno : mentF i fr = false) : Sat base w0 ⟨fr, [(i, true, .blob Φ), (q, o, .blob Ψ)], nx, n⟩ (fun p => if p = i then β j else β p) a w := by
  obtain ⟨h1, h2, h3, h4⟩ := hs
  have hβ : ∀ p, p ≠ i → (fun p => if p = i then β j else β p) p = β p := fun p hp => by dsimp only; rw [if_neg hp]
  obtain ⟨k1, -, k3, k4⟩ := h4.row j _ _ hj
  obtain ⟨l1, -, l3, l4⟩ := h4.row q _ _ hq
  have hqn : β q ≠ β j := h4.inj j q _ _ _ hj hq hqj
  have hcase : ∀ p ow r, get [(i, true, SRow.blob Φ), (q, o, SRow.blob Ψ)] p = some (ow, r) → (p = i ∧ ow = true ∧ r = .blob Φ) ∨ (p = q ∧ ow = o ∧ r = .blob Ψ) := fun p ow r hp => by
    rw [get_cons] at hp
    by_cases e : i = p
    · rw [if_pos e] at hp; cases hp; exact .inl ⟨e.symm, rfl, rfl⟩
    · rw [if_neg e, get_cons] at hp
      by_cases e2 : q = p
      · rw [if_pos e2] at hp; cases hp; exact .inr ⟨e2.symm, rfl, rfl⟩
      · rw [if_neg e2] at hp; cases hp
  refine ⟨h1, h2, fun s v hv => ?_, ?_⟩
  · obtain ⟨e1, e2⟩ := h3 s v hv
    exact ⟨by rw [e1, ment_den hβ v (mentF_get fr hno hv)], e2⟩
  refine ⟨h4.below, h4.base_le, fun p ow r hp => ?_, fun p hp => ?_, fun p p' r ow r' hp hp' hpp => ?_, h4.n0, fun p hp => ?_, h4.pr.ren (fun p r hp hne => by
    rcases hcase p true r hp with ⟨e, -, -⟩ | ⟨rfl, ho, -⟩
    · exact absurd e hne
    · exact ⟨_, by rw [hq, ho]⟩) (fun r _ => ⟨j, _, hj, rfl⟩)⟩
  · rcases hcase p ow r hp with ⟨rfl, rfl, rfl⟩ | ⟨rfl, rfl, rfl⟩
    · try dsimp only
      rw [if_pos rfl]
      exact ⟨k1, trivial, hi, fun _ => k4 rfl⟩
    · try dsimp only
      rw [if_neg hqi]
      exact ⟨l1, trivial, l3, l4⟩
  · have hp : p < nx := hp
    try dsimp only
    split
    · exact h4.lt j k3
    · exact h4.lt p hp
  · try dsimp only
    rcases hcase p true r hp with ⟨rfl, -, rfl⟩ | ⟨rfl, ho, rfl⟩
    · rcases hcase p' ow r' hp' with ⟨rfl, -, -⟩ | ⟨rfl, -, -⟩
      · exact absurd rfl hpp
      · rw [if_neg hqi, if_pos rfl]; exact hqn
    · rcases hcase p' ow r' hp' with ⟨rfl, -, -⟩ | ⟨rfl, -, -⟩
      · rw [if_pos rfl, if_neg hqi]; exact fun e => hqn e.symm
      · exact absurd rfl hpp
  · have hp : p < w0.n0 := hp
    try dsimp only
    rw [if_neg (by omega)]; exact h4.ext p hp
end Sym
end Go.Proofs.YtnbahdnjcdimgaaDoor
namespace Go.Proofs.YtnbahdnjcdimgaaDoor
open Go.RowKit
namespace Sym
end Sym
end Go.Proofs.YtnbahdnjcdimgaaDoor
namespace Go.Proofs.YtnbahdnjcdimgaaDoor
open Go.RowKit
namespace Sym
/-- a later first world -/
structure Ext (base : Nat) (a b : Base) : Prop where
  below : Below base a.w b.w
  β0 : b.β0 = a.β0
  n0 : b.n0 = a.n0
  pr : ∀ k, a.pr k → b.pr k ∧ b.w.heap[k]? = a.w.heap[k]?
theorem Ext.refl {base : Nat} (a : Base) : Ext base a a := ⟨Below.refl _ _, rfl, rfl, fun _ h => ⟨h, rfl⟩⟩
theorem Ext.trans {base : Nat} {a b c : Base} (h : Ext base a b) (k : Ext base b c) : Ext base a c :=
  ⟨h.below.trans k.below, k.β0.trans h.β0, k.n0.trans h.n0, fun q hq => ⟨(k.pr q (h.pr q hq).1).1, (k.pr q (h.pr q hq).1).2.trans (h.pr q hq).2⟩⟩
/-- a slice that is laid for good -/
structure Kept (base : Nat) (w0 : Base) (a : Option Addr) (xs : List Value) : Prop where
  at_ : SlAt a xs w0.w
  pr : xs ≠ [] → ∀ ad, a = some ad → w0.pr ad.block ∧ base ≤ ad.block
theorem Kept.nil {base : Nat} {w0 : Base} {a : Option Addr} : Kept base w0 a [] := ⟨sl_nil _ _, fun h => absurd rfl h⟩
theorem sl_same {a : Option Addr} {xs : List Value} {w w' : World} (h : SlAt a xs w) (hb : xs ≠ [] → ∀ ad, a = some ad → w'.heap[ad.block]? = w.heap[ad.block]?) : SlAt a xs w' := fun i v hv => by
  obtain ⟨ad, e, h1, h2⟩ := h i v hv
  have e1 := hb (fun e => by rw [e] at hv; simp at hv) ad e
  refine ⟨ad, e, ?_, ?_⟩
  · rcases Nat.lt_or_ge ad.block w'.heap.size with q | q
    · exact q
    · rw [Array.getElem?_eq_none q] at e1
      rw [Array.getElem?_eq_getElem h1] at e1; cases e1
  · rw [World.cell?_of_block (w := w) (by rw [add_block]; exact e1)]; exact h2
theorem Kept.ext {base : Nat} {w0 w1 : Base} {a : Option Addr} {xs : List Value} (h : Kept base w0 a xs) (e : Ext base w0 w1) : Kept base w1 a xs :=
  ⟨sl_same h.at_ fun hx ad ha => (e.pr _ (h.pr hx ad ha).1).2, fun hx ad ha => ⟨(e.pr _ (h.pr hx ad ha).1).1, (h.pr hx ad ha).2⟩⟩
theorem Kept.mem {base : Nat} {w0 : Base} {rows : List (Nat × Bool × SRow)} {nx : Nat} {β : Nat → Nat} {w : World} {a : Option Addr} {xs : List Value} (h : Kept base w0 a xs) (hm : Mem base w0 rows nx β w) : SlAt a xs w :=
  sl_same h.at_ fun hx ad ha => (hm.pr _ (h.pr hx ad ha).1).2.1
theorem Kept.fresh {base : Nat} {w0 : Base} {a : Option Addr} {xs : List Value} {W : World} (h : Kept base w0 a xs) (e : W.heap.size = base) : FreshX a xs W := fun hx ad ha => by
  have := (h.pr hx ad ha).2
  omega
/-- a block of one's own is apart from what is laid for good -/
theorem Kept.row {base : Nat} {w0 : Base} {rows : List (Nat × Bool × SRow)} {nx : Nat} {β : Nat → Nat} {w : World} {a : Option Addr} {xs : List Value} {i : Nat} {o : Bool} (hm : Mem base w0 rows nx β w) (hi : get rows i = some (o, .blob (SlF base a xs))) (w1 : Base) (e : w1.w = w) (hp : w1.pr (β i)) : Kept base w1 a xs := by
  obtain ⟨k1, -, -, -⟩ := hm.row i _ _ hi
  have k2 := k1.2
  refine ⟨by rw [e]; exact hm.slF i hi, fun hx ad ha => ?_⟩
  have hb := k2.2 hx
  cases xs with
  | nil => exact absurd rfl hx
  | cons x r =>
    obtain ⟨ad', e1, e2, _⟩ := k2.1 w rfl 0 x rfl
    rw [ha] at e1
    cases e1
    rw [e2]
    exact ⟨hp, hb⟩
theorem Kept.own {base : Nat} {w0 : Base} {rows : List (Nat × Bool × SRow)} {nx : Nat} {β : Nat → Nat} {w : World} {e : TypeId} {sz g n cap : Nat} {xs : List Value} {i : Nat} (hm : Mem base w0 rows nx β w) (hi : get rows i = some (true, .blob (OwnS e sz g n cap xs))) (w1 : Base) (e1 : w1.w = w) (hp : w1.pr (β i)) : Kept base w1 (some ⟨g, 0, none⟩) xs := by
  obtain ⟨k1, -, -, k4⟩ := hm.row i _ _ hi
  have hg : β i = g := k1.2.1
  refine ⟨by rw [e1]; exact k1.2.slAt k1.1, fun _ ad ha => ?_⟩
  cases ha
  rw [← hg]
  exact ⟨hp, k4 rfl⟩
def dels : List Nat → List (Nat × Bool × SRow) → List (Nat × Bool × SRow)
  | [], r => r
  | i :: S, r => dels S (del i r)
theorem get_dels : ∀ (S : List Nat) (rows : List (Nat × Bool × SRow)) (q : Nat) (x : Bool × SRow), get (dels S rows) q = some x → get rows q = some x ∧ q ∉ S
  | [], rows, q, x, h => ⟨h, by simp⟩
  | i :: S, rows, q, x, h => by
    obtain ⟨h1, h2⟩ := get_dels S (del i rows) q x h
    rw [get_del] at h1
    split at h1
    · cases h1
    · rename_i hne
      exact ⟨h1, by simp only [List.mem_cons, not_or]; exact ⟨hne, h2⟩⟩
def hasB (rows : List (Nat × Bool × SRow)) : List Nat → Bool
  | [] => true
  | i :: S => (get rows i).isSome && hasB rows S
theorem hasB_get {rows : List (Nat × Bool × SRow)} : ∀ {S : List Nat}, hasB rows S = true → ∀ i ∈ S, ∃ o r, get rows i = some (o, r)
  | [], _, i, h => by simp at h
  | j :: S, h, i, hi => by
    simp only [hasB, Bool.and_eq_true] at h
    rcases List.mem_cons.1 hi with rfl | hi
    · obtain ⟨⟨o, r⟩, e⟩ := Option.isSome_iff_exists.1 h.1
      exact ⟨o, r, e⟩
    · exact hasB_get h.2 i hi
/-- the blocks of the numbers S are left alone from now on -/
theorem Sat.protect {base : Nat} {w0 : Base} {β : Nat → Nat} {a : Act} {w : World} {fr : List (Nat × SV)} {rows : List (Nat × Bool × SRow)} {nx n : Nat} (hs : Sat base w0 ⟨fr, rows, nx, n⟩ β a w) (S : List Nat) (hS : hasB rows S = true) :
    ∃ w1 : Base, Ext base w0 w1 ∧ w1.w = w ∧ (∀ i ∈ S, w1.pr (β i)) ∧ Sat base w1 ⟨fr, dels S rows, nx, n⟩ β a w := by
  obtain ⟨h1, h2, h3, h4⟩ := hs
  refine ⟨⟨w, w0.β0, w0.n0, fun b => w0.pr b ∨ ∃ i ∈ S, b = β i⟩, ⟨h4.below, rfl, rfl, fun k hk => ⟨.inl hk, (h4.pr k hk).2.1⟩⟩, rfl, fun i hi => .inr ⟨i, hi, rfl⟩, h1, h2, h3, ?_⟩
  refine ⟨Below.refl _ _, h4.base_le, fun i o r hi => h4.row i o r (get_dels S rows i _ hi).1, h4.lt, fun i j r o r' hi hj hne => h4.inj i j r o r' (get_dels S rows i _ hi).1 (get_dels S rows j _ hj).1 hne, h4.n0, h4.ext, fun b hb => ?_⟩
  rcases hb with hb | ⟨i, hi, rfl⟩
  · exact ⟨(h4.pr b hb).1, rfl, fun j r hj => (h4.pr b hb).2.2 j r (get_dels S rows j _ hj).1⟩
  · obtain ⟨o, r, hr⟩ := hasB_get hS i hi
    refine ⟨h4.lt i (h4.row i o r hr).2.2.1, rfl, fun j r' hj => ?_⟩
    obtain ⟨g1, g2⟩ := get_dels S rows j _ hj
    have := h4.inj j i r' o r g1 hr (fun e => g2 (e ▸ hi))
    exact fun e => this e.symm
/-- what is known where blocks are laid for good -/
def Laid (C : Ctx) (rows : List (Nat × Bool × SRow)) (nx : Nat) (S : List Nat) (w1 : Base) : Prop := Ext C.base C.w0 w1 ∧ ∃ β, Mem C.base C.w0 rows nx β w1.w ∧ ∀ i ∈ S, w1.pr (β i)
theorem Laid.row {C : Ctx} {rows : List (Nat × Bool × SRow)} {nx : Nat} {S : List Nat} {w1 : Base} (h : Laid C rows nx S w1) (i : Nat) {o : Bool} {a : Option Addr} {xs : List Value} (hi : get rows i = some (o, .blob (SlF C.base a xs))) (hS : i ∈ S) : Kept C.base w1 a xs := by
  obtain ⟨-, β, hm, hp⟩ := h
  exact Kept.row hm hi w1 rfl (hp i hS)
theorem Laid.own {C : Ctx} {rows : List (Nat × Bool × SRow)} {nx : Nat} {S : List Nat} {w1 : Base} (h : Laid C rows nx S w1) (i : Nat) {e : TypeId} {sz g n cap : Nat} {xs : List Value} (hi : get rows i = some (true, .blob (OwnS e sz g n cap xs))) (hS : i ∈ S) : Kept C.base w1 (some ⟨g, 0, none⟩) xs := by
  obtain ⟨-, β, hm, hp⟩ := h
  exact Kept.own hm hi w1 rfl (hp i hS)
abbrev Ctx.on (C : Ctx) (w1 : Base) : Ctx := { C with w0 := w1 }
theorem back_prot {C : Ctx} {I : Act → World → Prop} {fr : List (Nat × SV)} {rows : List (Nat × Bool × SRow)} {nx n : Nat} (S : List Nat) (h : ∀ w1, Laid C rows nx S w1 → BackN { C with w0 := w1 } I ⟨fr, dels S rows, nx, n⟩) (hS : hasB rows S = true := by rfl) : BackN C I ⟨fr, rows, nx, n⟩ := by
  unfold BackN at h ⊢
  intro β a w hs
  obtain ⟨w1, e1, rfl, e3, e4⟩ := hs.protect S hS
  exact h w1 ⟨e1, β, hs.mem, e3⟩ β a _ e4
theorem ret_prot {C : Ctx} {v : SV} {fr : List (Nat × SV)} {rows : List (Nat × Bool × SRow)} {nx n : Nat} (S : List Nat) (h : ∀ w1, Laid C rows nx S w1 → RetN { C with w0 := w1 } ⟨fr, dels S rows, nx, n⟩ v) (hS : hasB rows S = true := by rfl) : RetN C ⟨fr, rows, nx, n⟩ v := by
  unfold RetN at h ⊢
  intro β w hm
  have hs : Sat C.base C.w0 ⟨[], rows, nx, 0⟩ β ⟨#[], []⟩ w := ⟨rfl, rfl, fun s v hv => by simp [get] at hv, hm⟩
  obtain ⟨w1, e1, rfl, e3, e4⟩ := hs.protect S hS
  exact h w1 ⟨e1, β, hm, e3⟩ β _ e4.mem
/-- a loop whose rounds lay blocks for good -/
theorem loopP {C : Ctx} (hE : EnvOK C.P C.E) (hres : C.fn.results = C.res.toArray) {c : Code} {k : List It} {st : St} {T : Type} (J : T → St) (Inv : T → Base → Prop) (μ : T → Nat) (t0 : T) (sc sb : List Nat) (hi0 : Inv t0 C.w0)
    (h : ∀ w1 t (I : Act → World → Prop), Ext C.base C.w0 w1 → Inv t w1 → (∀ w2 st' t', Ext C.base w1 w2 → Inv t' w2 → μ t' < μ t → wk st' (J t') → BackN { C with w0 := w2, sc := sc, sb := sb } I st') → wpS { C with w0 := w1, sc := sc, sb := sb } 1000 (.code c :: .back I :: k) (J t))
    (h0 : wk st (J t0)) (hn0 : ∀ t, C.w0.n0 ≤ (J t).next) : LoopN C c k st := by
  unfold LoopN
  intro β a w hs
  refine wp_loop_ghost (fun n a w => ∃ t w1 β, μ t = n ∧ Ext C.base C.w0 w1 ∧ Inv t w1 ∧ Sat C.base w1 (J t) β a w) (μ t0) ⟨t0, C.w0, β, rfl, Ext.refl _, hi0, wk_sound (hn0 t0) h0 hs⟩ ?_
  rintro n a w ⟨t, w1, β, rfl, hx, hi, hs⟩
  exact wpS_sound (C := { C with w0 := w1, sc := sc, sb := sb }) hE hres 1000 _ _ β a w (h w1 t _ hx hi (fun w2 st' t' hx2 hi2 hlt hw => by
    unfold BackN
    exact fun β a w hs => ⟨μ t', hlt, t', w2, β, rfl, hx.trans hx2, hi2, wk_sound (by have := hn0 t'; have e := (hx.trans hx2).n0; rw [e]; exact this) hw hs⟩)) hs
/-- a call that lays blocks for good -/
theorem callP {C : Ctx} (hE : EnvOK C.P C.E) (hres : C.fn.results = C.res.toArray) {all l : List Oper} {k : List It} {d : Nat} {f : FuncId} {args : List SV} {fr : List (Nat × SV)} {rows : List (Nat × Bool × SRow)} {nx n : Nat} {T : Type} (V : T → SV) (Φ : T → World → World → Prop) (fuel : Nat)
    (he : entersB C.P f = true) (hd : Nat.blt d n = true) (hv : ∀ t, (V t).ok nx) (hc : ∀ β w, Mem C.base C.w0 rows nx β w → Calls C.P f (SV.dens β args).toArray w fun e w' => ∃ t, e = .returned ((V t).den β) ∧ Below w.heap.size w w' ∧ Φ t w w')
    (h : ∀ t w1, Ext C.base C.w0 w1 → (∃ w, C.base ≤ w.heap.size ∧ Below w.heap.size w w1.w ∧ Φ t w w1.w ∧ ∀ b, w.heap.size ≤ b → b < w1.w.heap.size → w1.pr b) → wpS { C with w0 := w1 } fuel (.ops all l :: k) ⟨(d, V t) :: fr, rows, nx, n⟩) : CallN C all l k (some d) f args ⟨fr, rows, nx, n⟩ := by
  unfold CallN
  refine ⟨he, fun β a w hs => (hc β w hs.mem).mono ?_⟩
  rintro e w' ⟨t, rfl, hb, hΦ⟩
  have hm := hs.mem.belowNext hb
  refine wpS_sound (C := { C with w0 := ⟨w', C.w0.β0, C.w0.n0, fun b => C.w0.pr b ∨ (w.heap.size ≤ b ∧ b < w'.heap.size)⟩ }) hE hres fuel (.ops all l :: k) _ β _ w' (h t _ ⟨hm.below, rfl, rfl, fun q hq => ⟨.inl hq, (hm.pr q hq).2.1⟩⟩ ⟨w, hs.mem.base_le, hb, hΦ, fun b h1 h2 => .inr ⟨h1, h2⟩⟩) ?_
  have hs' : Sat C.base ⟨w', C.w0.β0, C.w0.n0, fun b => C.w0.pr b ∨ (w.heap.size ≤ b ∧ b < w'.heap.size)⟩ ⟨fr, rows, nx, n⟩ β a w' := by
    refine ⟨hs.defers, hs.size, hs.slot, Below.refl _ _, hm.base_le, hm.row, hm.lt, hm.inj, hm.n0, hm.ext, fun b hb => ?_⟩
    rcases hb with hb | ⟨b1, b2⟩
    · exact ⟨(hm.pr b hb).1, rfl, (hm.pr b hb).2.2⟩
    · exact ⟨b2, rfl, fun i r hi => by have := hs.mem.lt i (hs.mem.row i true r hi).2.2.1; omega⟩
  exact hs'.put (by simpa [Nat.blt_eq] using hd) (hv t)
theorem Kept.new {base : Nat} {a : Option Addr} {xs : List Value} {w : World} {w1 : Base} (hb : base ≤ w.heap.size) (h : SlAt a xs w1.w) (hf : FreshX a xs w) (hp : ∀ b, w.heap.size ≤ b → b < w1.w.heap.size → w1.pr b) : Kept base w1 a xs := ⟨h, fun hx ad ha => by
  have h1 := hf hx ad ha
  have h2 : ad.block < w1.w.heap.size := by
    cases xs with
    | nil => exact absurd rfl hx
    | cons x r =>
      obtain ⟨ad', e, q, _⟩ := h 0 x rfl
      rw [ha] at e; cases e; exact q
  exact ⟨hp _ h1 h2, by omega⟩⟩
mutual
/-- the pointers in a value name blocks below m -/
def okV (m : Nat) : SV → Bool
  | .ptr i _ => Nat.blt i m
  | .agg cs => okVs m cs
  | .tup vs => okVs m vs
  | .fn _ cs => okVs m cs
  | _ => true
def okVs (m : Nat) : List SV → Bool
  | [] => true
  | v :: r => okV m v && okVs m r
end
mutual
theorem okV_ok {m n : Nat} : ∀ v : SV, okV m v = true → v.ok n → v.ok m
  | .lit _, _, _ => trivial
  | .bool _, _, _ => trivial
  | .prop _ _, _, _ => trivial
  | .int _ _, _, _ => trivial
  | .str _, _, _ => trivial
  | .ptr i _, h, _ => by
    have h : Nat.blt i m = true := h
    rw [Nat.blt_eq] at h
    exact h
  | .agg cs, h, k => okVs_ok cs h k
  | .tup cs, h, k => okVs_ok cs h k
  | .fn _ cs, h, k => okVs_ok cs h k
  | .any _, _, k => k
theorem okVs_ok {m n : Nat} : ∀ vs : List SV, okVs m vs = true → SV.oks n vs → SV.oks m vs
  | [], _, _ => trivial
  | v :: r, h, k => by
    simp only [okVs, Bool.and_eq_true] at h
    exact ⟨okV_ok v h.1 k.1, okVs_ok r h.2 k.2⟩
end
def okF (m : Nat) : List (Nat × SV) → Bool
  | [] => true
  | (_, v) :: r => okV m v && okF m r
theorem okF_get {m n s : Nat} {v : SV} : ∀ (fr : List (Nat × SV)), okF m fr = true → get fr s = some v → v.ok n → v.ok m
  | [], _, h, _ => by simp [get] at h
  | (t, u) :: r, hf, h, k => by
    simp only [okF, Bool.and_eq_true] at hf
    rw [get_cons] at h
    by_cases e : t = s
    · rw [if_pos e] at h; cases h; exact okV_ok _ hf.1 k
    · rw [if_neg e] at h; exact okF_get r hf.2 h k
/-- a callee that writes to blocks of its caller and lays blocks for good, walked in place -/
theorem inlineP {C : Ctx} (m0 : Nat) (hE : EnvOK C.P C.E) (hres : C.fn.results = C.res.toArray) {all l : List Oper} {k : List It} {d : Option Nat} {f : FuncId} {args : List SV} {fr : List (Nat × SV)} {rows : List (Nat × Bool × SRow)} {nx n : Nat}
    {fn : Func} {c : Code} {res : List ResultVar} {nt : Nat} (hf : C.P.funcs[f]? = some fn) (hb : fn.body = some c) (hres' : fn.results = res.toArray) (hnt : fn.ntmps = nt) (he : entersB C.P f = true) (hv : SV.oks nx args) (hlen : args.length ≤ nt) (hm0 : C.w0.n0 ≤ m0) (hm1 : Nat.ble m0 nx = true) (hfr : okF m0 fr = true)
    {T : Type} (V : T → SV) (Rw : T → List (Nat × Bool × SRow)) (Inv : T → World → (Nat → Prop) → Prop) (sc sb : List Nat) (fuel fuel' : Nat)
    (h1 : ∀ (R' : Ending → World → Prop) (β0 : Nat → Nat), (∀ (t : T) (st' : St) (v : SV) (w1 : Base), Ext C.base ⟨C.w0.w, β0, m0, C.w0.pr⟩ w1 → Inv t w1.w w1.pr → wkV v st' (V t) (Rw t) nx → RetN ⟨C.P, C.E, C.base, w1, fn, res, R', sc, sb⟩ st' v) → wpS ⟨C.P, C.E, C.base, ⟨C.w0.w, β0, m0, C.w0.pr⟩, fn, res, R', sc, sb⟩ fuel [.code c] ⟨argSlots 0 args, rows, nx, nt⟩)
    (h2 : ∀ t w1, Ext C.base C.w0 w1 → Inv t w1.w w1.pr → putD d (V t) ⟨fr, Rw t, nx, n⟩ (fun st' => wpS { C with w0 := w1 } fuel' (.ops all l :: k) st') ∨ (d = none ∧ wpS { C with w0 := w1 } fuel' (.ops all l :: k) ⟨fr, Rw t, nx, n⟩)) : CallN C all l k d f args ⟨fr, rows, nx, n⟩ := by
  unfold CallN
  refine ⟨he, fun β a w hs => ?_⟩
  let R' : Ending → World → Prop := fun e w' => ∃ t β' w1, Ext C.base C.w0 w1 ∧ Inv t w1.w w1.pr ∧ e = .returned ((V t).den β') ∧ (V t).ok nx ∧ Mem C.base ⟨w1.w, β, m0, w1.pr⟩ (Rw t) nx β' w'
  have hm := hs.mem
  have run : Calls C.P f (SV.dens β args).toArray w R' := by
    refine calls_of_wp hf hb ?_
    refine wpS_sound (C := ⟨C.P, C.E, C.base, ⟨C.w0.w, β, m0, C.w0.pr⟩, fn, res, R', sc, sb⟩) hE hres' fuel [.code c] _ β _ w (h1 R' β ?_) ?_
    · intro t st' v w1 hx hi hw
      obtain ⟨q1, q2, q3, q4⟩ := hw
      have hle : nx ≤ st'.next := Nat.le_of_ble_eq_true q1
      have e0 : w1.β0 = β := hx.β0
      have e1 : w1.n0 = m0 := hx.n0
      unfold RetN
      intro β' w' hm'
      refine ⟨t, β', ⟨w1.w, C.w0.β0, C.w0.n0, w1.pr⟩, ⟨hx.below, rfl, rfl, hx.pr⟩, hi, ?_, q3, ?_⟩
      · rw [eqSV_sound β' v _ q2]
      · refine ⟨hm'.below, hm'.base_le, fun i o r hi => ?_, fun i hi => hm'.lt i (Nat.lt_of_lt_of_le hi hle), fun i j r oj rj hi hj hji => ?_, Nat.le_of_ble_eq_true hm1, fun i hi => ?_, hm'.pr.same fun i r hi => by obtain ⟨_, _, r', g3, _⟩ := wkR_sound q4 hi; exact ⟨i, r', g3, rfl⟩⟩
        · obtain ⟨g1, g2, r', g3, g4⟩ := wkR_sound q4 hi
          obtain ⟨m1, m2, m3, m4⟩ := hm'.row i o r' g3
          exact ⟨g4 _ _ _ m1, g2, g1, m4⟩
        · obtain ⟨g1, g2, r', g3, g4⟩ := wkR_sound q4 hi
          obtain ⟨_, _, rj', f3, _⟩ := wkR_sound q4 hj
          exact hm'.inj i j r' oj rj' g3 f3 hji
        · have := hm'.ext i (by rw [e1]; exact hi)
          rw [e0] at this; exact this
    · refine ⟨rfl, ?_, fun s v hs' => ?_, hm.below, hm.base_le, hm.row, hm.lt, hm.inj, Nat.le_of_ble_eq_true hm1, fun i _ => rfl, hm.pr⟩
      · simp [SV.dens_len, hnt]; omega
      · obtain ⟨_, h2⟩ := argSlots_get args 0 hs'
        have h2 : args[s]? = some v := by simpa using h2
        refine ⟨?_, SV.oks_get args s v hv h2⟩
        have hs' : s < args.length := (List.getElem?_eq_some_iff.1 h2).1
        rw [Array.getD_eq_getD_getElem?, Array.getElem?_append_left (by simpa [SV.dens_len] using hs')]
        simp [SV.dens_get, h2]
  refine run.mono ?_
  rintro e w' ⟨t, β', w1, hx, hi, rfl, hok, hm'⟩
  have hext : ∀ i, i < m0 → β' i = β i := fun i hi => hm'.ext i hi
  have hs' : Sat C.base w1 ⟨fr, Rw t, nx, n⟩ β' a w' := by
    refine ⟨hs.defers, hs.size, fun s v hv' => ?_, hm'.below, hm'.base_le, hm'.row, hm'.lt, hm'.inj, by rw [hx.n0]; exact hm.n0, fun i hi => ?_, hm'.pr⟩
    · obtain ⟨q1, q2⟩ := hs.slot s v hv'
      exact ⟨by rw [q1, SV.den_ext hext v (okF_get fr hfr hv' q2)], q2⟩
    · have hi : i < C.w0.n0 := by rw [← hx.n0]; exact hi
      rw [hext i (Nat.lt_of_lt_of_le hi hm0), hx.β0]; exact hm.ext i hi
  rcases h2 t w1 hx hi with h | ⟨rfl, h⟩
  · obtain ⟨st', hK, hs2⟩ := putD_sound hs' hok h
    exact wpS_sound (C := { C with w0 := w1 }) hE hres fuel' (.ops all l :: k) _ β' _ w' hK hs2
  · exact wpS_sound (C := { C with w0 := w1 }) hE hres fuel' (.ops all l :: k) _ β' _ w' h hs'
end Sym
end Go.Proofs.YtnbahdnjcdimgaaDoor
namespace Go.Proofs.YtnbahdnjcdimgaaDoor
open Go.RowKit
namespace Sym
/-- a struct is stored in a row of one's own -/
theorem opx_storeN {C : Ctx} (hE : EnvOK C.P C.E) {ty : TypeId} {pos : String} {after : Array Edge} {gd : Option (Nat × Bool)} {fr : List (Nat × SV)} {rows : List (Nat × Bool × SRow)} {nx n : Nat} {K : St → Prop}
    {t e : TypeId} {x y : Operand} (i : Nat) {p sz g m cap : Nat} {xs us : List Value} {v : SV} {vs : List SV} {kd : TK} {ag : Bool} {z : List SV}
    (hx : ev fr x = some (.any (.pointer (some ((⟨g, 0, none⟩ : Addr).add p))))) (hy : ev fr y = some v) (hc : cellsSV v = some vs) (ho : allOne vs = true) (hu : ∀ β, SV.dens β vs = us) (ht : get C.E t = some ⟨kd, sz, ag, z⟩) (hl : vs.length = sz)
    (ri : get rows i = some (true, .blob (OwnS e sz g m cap xs))) (hp : p + sz ≤ m * sz)
    (h : K ⟨fr, (i, true, .blob (OwnS e sz g m cap (xs.take p ++ us ++ xs.drop (p + sz)))) :: rows, nx, n⟩) : OpX C ⟨none, .store t x y, ty, pos, after, gd⟩ ⟨fr, rows, nx, n⟩ K := by
  unfold OpX
  intro β a w hs next Q hn
  have ht' := env_get hE ht
  obtain ⟨ex, _⟩ := ev_sound hs hx
  obtain ⟨ey, oy⟩ := ev_sound hs hy
  obtain ⟨ec, oc⟩ := cells_sound (β := β) hc oy
  have hm := hs.mem
  obtain ⟨k1, k2, k3, k4⟩ := hm.row i true _ ri
  obtain ⟨q0, cur, q1, q2, q3, q4, q5, q6⟩ := k1.2
  have hrow : Row w g e cur := by unfold Row; rw [← q0]; exact q1
  have hul : us.length = sz := by rw [← hu β, SV.dens_len, hl]
  have hmc : m * sz ≤ cap * sz := Nat.mul_le_mul_right _ q2
  have hst := run_storeCells_at (P := C.P) g p e (SV.dens β vs) 0 cur w hrow (by rw [SV.dens_len]; omega) (allOne_sound (n := nx) ho oc)
  rw [hu β, Nat.add_zero] at hst
  have hst2 : (storeVar t ⟨g, p, none⟩ (v.den β)).run C.P w = .ok () (w.setRow g (cur.toList.take p ++ us ++ cur.toList.drop (p + us.length)).toArray) := by
    simp only [storeVar, Sem.run_bind, ht'.size, Result.andThen_ok, ec]
    rw [if_neg (by simp [SV.dens_len, hl]), hu β]
    exact hst
  rw [add_at] at ex
  simp only [SV.den, Nat.zero_add] at ex
  unfold Oper.wp
  have : (execOp a.eval ⟨none, .store t x y, ty, pos, after, gd⟩).run C.P w = .ok .skip (w.setRow g (cur.toList.take p ++ us ++ cur.toList.drop (p + us.length)).toArray) := by
    simp [execOp, Instr.storeAt, ex, ey, Instr.sureAddr, hst2]
  rw [this]
  show next (a.put none undef) _
  have hsz : cur.toList.length = cap * sz := by simpa using q4
  have hs2 := hs.setBlob (Φ' := OwnS e sz g m cap (xs.take p ++ us ++ xs.drop (p + sz))) (cs' := (cur.toList.take p ++ us ++ cur.toList.drop (p + us.length)).toArray) ri q1 ⟨q0, _, rfl, q2, q3, by simp [hul]; omega, by
    rw [← q5, hul]
    simp only [List.toList_toArray]
    rw [List.take_take, List.drop_take, Nat.min_eq_left (by omega)]
    rw [List.take_append, List.take_of_length_le (by simp; omega)]
    congr 1
    simp only [List.length_append, List.length_take, hul]
    rw [Nat.min_eq_left (by omega)], by simp [q6, hul]; omega⟩
  rw [q0] at hs2
  exact hn _ _ _ _ h hs2
/-- a struct is read from a row of one's own -/
theorem x_loadAO {C : Ctx} {G : Blobs} {x : Operand} {t e : TypeId} {sz g m cap p : Nat} {xs : List Value} (i : Nat) (vs : List SV) (hag : ∀ w, (isAgg t).run C.P w = .ok true w) (hs : ∀ w, (sizeOf t).run C.P w = .ok vs.length w) (ri : G i = some (OwnS e sz g m cap xs)) (hv : ∀ β j v, (SV.dens β vs)[j]? = some v → xs[p + j]? = some v) :
    ExtN C G (.load t x) [.any (.pointer (some ((⟨g, 0, none⟩ : Addr).add p)))] (.agg vs) := by
  unfold ExtN
  intro ρ β w dst ty pos after gg hb hG h
  have e1 : ρ x = .pointer (some ((⟨g, 0, none⟩ : Addr).add p)) := by simpa [opsX, SV.dens, SV.den] using h
  obtain ⟨h1, h2⟩ := hG i _ ri
  have := run_loadCells_list (P := C.P) w ((⟨g, 0, none⟩ : Addr).add p) (SV.dens β vs) (fun j v hj => by
    have := h2.cell (p + j) v (hv β j v hj)
    rw [add_at] at this ⊢
    rw [add_at]
    simpa using this)
  rw [SV.dens_len] at this
  simp [execOp, Instr.loadAt, Instr.sureAddr, e1, loadVar, hag, hs, this, SV.den]
/-- a struct is read from a row that is known -/
theorem x_loadAF {C : Ctx} {G : Blobs} {x : Operand} {t : TypeId} {a : Addr} {p bs : Nat} {xs : List Value} (i : Nat) (vs : List SV) (hag : ∀ w, (isAgg t).run C.P w = .ok true w) (hs : ∀ w, (sizeOf t).run C.P w = .ok vs.length w) (ri : G i = some (SlF bs (some a) xs)) (hv : ∀ β j v, (SV.dens β vs)[j]? = some v → xs[p + j]? = some v) :
    ExtN C G (.load t x) [.any (.pointer (some (a.add p)))] (.agg vs) := by
  unfold ExtN
  intro ρ β w dst ty pos after gg hb hG h
  have e1 : ρ x = .pointer (some (a.add p)) := by simpa [opsX, SV.dens, SV.den] using h
  obtain ⟨h1, h2⟩ := hG i _ ri
  have hsl := h2.at h1
  have := run_loadCells_list (P := C.P) w (a.add p) (SV.dens β vs) (fun j v hj => by
    obtain ⟨ad, e0, -, h3⟩ := hsl (p + j) v (hv β j v hj)
    cases e0
    have e2 : (a.add p).add j = a.add (p + j) := by
      unfold Addr.add
      by_cases hx : p = 0 <;> by_cases hy : j = 0 <;> simp [hx, hy, Nat.add_assoc]
    rw [e2]; exact h3)
  rw [SV.dens_len] at this
  simp [execOp, Instr.loadAt, Instr.sureAddr, e1, loadVar, hag, hs, this, SV.den]
/-- what is laid for good gets a number -/
theorem Sat.kept {base : Nat} {w0 : Base} {act : Act} {w : World} {fr : List (Nat × SV)} {n nx : Nat} {rows : List (Nat × Bool × SRow)} {β : Nat → Nat} {a : Option Addr} {xs : List Value} (h0 : 0 < base) (hs : Sat base w0 ⟨fr, rows, nx, n⟩ β act w) (hk : Kept base w0 a xs) :
    ∃ q, Sat base w0 ⟨fr, (nx, false, .blob (SlF base a xs)) :: rows, nx + 1, n⟩ (fun i => if i = nx then q else β i) act w := by
  have hm := hs.mem
  have hsl := hk.mem hm
  have hex : ∃ q, q < w.heap.size ∧ SlF base a xs q w.heap[q]? ∧ ∀ i r, get rows i = some (true, r) → β i ≠ q := by
    cases xs with
    | nil => exact ⟨0, by have := hm.base_le; omega, ⟨fun _ _ i v hi => by simp at hi, fun h => absurd rfl h⟩, fun i r hi => by have := (hm.row i true r hi).2.2.2 rfl; omega⟩
    | cons y r =>
      obtain ⟨ad, e, h1, _⟩ := hsl 0 y rfl
      obtain ⟨p1, p2⟩ := hk.pr (by simp) ad e
      refine ⟨ad.block, h1, ⟨fun W hW i v hi => ?_, fun _ => p2⟩, fun i r hi => (hm.pr _ p1).2.2 i r hi⟩
      obtain ⟨ad', e', h2, h3⟩ := hsl i v hi
      rw [e] at e'
      cases e'
      exact ⟨ad, e, rfl, by rw [World.cell?_of_block (w := w) (by rw [add_block]; exact hW)]; exact h3⟩
  obtain ⟨q, h2, h3, h4⟩ := hex
  exact ⟨q, hs.learn (o := false) h2 h3 (fun e => by cases e) h4⟩
end Sym
end Go.Proofs.YtnbahdnjcdimgaaDoor
namespace Go.Proofs.YtnbahdnjcdimgaaDoor
open Go.RowKit
namespace Sym
open ExP (nd)
end Sym
open Sym
end Go.Proofs.YtnbahdnjcdimgaaDoor
namespace Go.Proofs.YtnbahdnjcdimgaaDoor
open Go.RowKit
namespace Sym
open ExP (nd)
end Sym
open Sym
end Go.Proofs.YtnbahdnjcdimgaaDoor
namespace Go.Proofs.YtnbahdnjcdimgaaDoor
open Go.RowKit
namespace Sym
end Sym
end Go.Proofs.YtnbahdnjcdimgaaDoor
namespace Go.Proofs.YtnbahdnjcdimgaaDoor
open Go.RowKit
namespace Sym
end Sym
end Go.Proofs.YtnbahdnjcdimgaaDoor
namespace Go.Proofs.YtnbahdnjcdimgaaDoor.Bi
open Go
theorem ofInt_i64 (a : Nat) (ha : a < 9223372036854775808) : (BitVec.ofInt 64 (a : Int)).toNat = a := by
  rw [BitVec.ofInt_natCast, BitVec.toNat_ofNat]; exact Nat.mod_eq_of_lt (by omega)
theorem i64_and_nat (a b : Nat) (ha : a < 9223372036854775808) (hb : b < 9223372036854775808) : bits .and .i64 (a : Int) (b : Int) = ((a &&& b : Nat) : Int) := by
  have hx : a &&& b < 2 ^ 63 := Nat.and_lt_two_pow _ (by omega)
  show IntKind.i64.wrap ((BitVec.ofInt 64 (a : Int) &&& BitVec.ofInt 64 (b : Int)).toNat : Int) = _
  rw [BitVec.toNat_and, ofInt_i64 a ha, ofInt_i64 b hb, IntKind.wrap_i64]
  omega
theorem i64_or_nat (a b : Nat) (ha : a < 9223372036854775808) (hb : b < 9223372036854775808) : bits .or .i64 (a : Int) (b : Int) = ((a ||| b : Nat) : Int) := by
  have hx : a ||| b < 2 ^ 63 := Nat.or_lt_two_pow (by omega) (by omega)
  show IntKind.i64.wrap ((BitVec.ofInt 64 (a : Int) ||| BitVec.ofInt 64 (b : Int)).toNat : Int) = _
  rw [BitVec.toNat_or, ofInt_i64 a ha, ofInt_i64 b hb, IntKind.wrap_i64]
  omega
end Go.Proofs.YtnbahdnjcdimgaaDoor.Bi
namespace Go.Proofs.YtnbahdnjcdimgaaDoor
open Go.RowKit
namespace Sym
theorem x_and {C : Ctx} {G : Blobs} {x y : Operand} {t u : TypeId} {k : IntKind} {a b : Int} (c : Int) (hc : k.wrap ((BitVec.ofInt k.bits a &&& BitVec.ofInt k.bits b).toNat : Int) = c) : ExtN C G (.binOp .and t x y u) [.int k a, .int k b] (.int k c) := by
  unfold ExtN
  intro ρ β w dst ty pos after g _ _ h
  have h' : ρ x = .int k a ∧ ρ y = .int k b := by simpa [opsX, SV.dens, SV.den] using h
  subst hc
  simp [execOp, eqGuard, binOp, Op.intBits, h'.1, h'.2, SV.den]
theorem x_or {C : Ctx} {G : Blobs} {x y : Operand} {t u : TypeId} {k : IntKind} {a b : Int} (c : Int) (hc : k.wrap ((BitVec.ofInt k.bits a ||| BitVec.ofInt k.bits b).toNat : Int) = c) : ExtN C G (.binOp .or t x y u) [.int k a, .int k b] (.int k c) := by
  unfold ExtN
  intro ρ β w dst ty pos after g _ _ h
  have h' : ρ x = .int k a ∧ ρ y = .int k b := by simpa [opsX, SV.dens, SV.den] using h
  subst hc
  simp [execOp, eqGuard, binOp, Op.intBits, h'.1, h'.2, SV.den]
theorem x_shl {C : Ctx} {G : Blobs} {x y : Operand} {t u : TypeId} {k k' : IntKind} {a : Int} (n : Nat) (hn : n ≤ k.bits) (hw : inK k (a * 2 ^ n)) : ExtN C G (.binOp .shl t x y u) [.int k a, .int k' (n : Int)] (.int k (a * 2 ^ n)) := by
  unfold ExtN
  intro ρ β w dst ty pos after g _ _ h
  have h' : ρ x = .int k a ∧ ρ y = .int k' (n : Int) := by simpa [opsX, SV.dens, SV.den] using h
  have h0 : ¬ ((n : Int) < 0) := by omega
  simp [execOp, eqGuard, binOp, Op.shift, h'.1, h'.2, SV.den, h0, Nat.min_eq_left hn, inK_wrap hw]
end Sym
namespace Bi
theorem ofInt_u8 (a : Nat) (ha : a < 256) : (BitVec.ofInt 8 (a : Int)).toNat = a := by
  rw [BitVec.ofInt_natCast, BitVec.toNat_ofNat]; exact Nat.mod_eq_of_lt (by omega)
theorem u8_and (a b c : Nat) (ha : a < 256) (hb : b < 256) (hc : a &&& b = c) : IntKind.u8.wrap ((BitVec.ofInt IntKind.u8.bits (a : Int) &&& BitVec.ofInt IntKind.u8.bits (b : Int)).toNat : Int) = (c : Int) := by
  subst hc
  show IntKind.u8.wrap ((BitVec.ofInt 8 (a : Int) &&& BitVec.ofInt 8 (b : Int)).toNat : Int) = _
  have hx : a &&& b ≤ a := Nat.and_le_left
  rw [BitVec.toNat_and, ofInt_u8 a ha, ofInt_u8 b hb]
  exact Sym.inK_wrap (by simp only [Sym.inK]; omega)
theorem i64_and (a b c : Nat) (ha : a < 9223372036854775808) (hb : b < 9223372036854775808) (hc : a &&& b = c) : IntKind.i64.wrap ((BitVec.ofInt IntKind.i64.bits (a : Int) &&& BitVec.ofInt IntKind.i64.bits (b : Int)).toNat : Int) = (c : Int) := by
  subst hc
  exact i64_and_nat a b ha hb
theorem i64_or (a b c : Nat) (ha : a < 9223372036854775808) (hb : b < 9223372036854775808) (hc : a ||| b = c) : IntKind.i64.wrap ((BitVec.ofInt IntKind.i64.bits (a : Int) ||| BitVec.ofInt IntKind.i64.bits (b : Int)).toNat : Int) = (c : Int) := by
  subst hc
  exact i64_or_nat a b ha hb
theorem and_31 (a : Nat) : a &&& 31 = a % 32 := Nat.and_two_pow_sub_one_eq_mod a 5
theorem and_15 (a : Nat) : a &&& 15 = a % 16 := Nat.and_two_pow_sub_one_eq_mod a 4
theorem and_7 (a : Nat) : a &&& 7 = a % 8 := Nat.and_two_pow_sub_one_eq_mod a 3
theorem and_63 (a : Nat) : a &&& 63 = a % 64 := Nat.and_two_pow_sub_one_eq_mod a 6
set_option maxRecDepth 100000 in
theorem and_192 : ∀ a : Nat, a < 256 → a &&& 192 = a / 64 * 64 := by decide
theorem or_64 (a b : Nat) (hb : b < 64) : a * 64 ||| b = a * 64 + b := by
  have := Nat.two_pow_add_eq_or_of_lt (i := 6) (b := b) hb a
  rw [Nat.mul_comm a 64]
  exact this.symm
end Bi
end Go.Proofs.YtnbahdnjcdimgaaDoor
namespace Go.Proofs.YtnbahdnjcdimgaaDoor
open Go.RowKit
open Sym
end Go.Proofs.YtnbahdnjcdimgaaDoor
