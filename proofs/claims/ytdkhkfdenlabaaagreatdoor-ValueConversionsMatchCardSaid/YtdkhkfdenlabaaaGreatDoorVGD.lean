/- A walk that reckons: numbers as slices o -/
import Derived.Test.YtdkhkfdenlabaaaGreatDoorVGC
import Derived.Lib.ItoaNum
set_option linter.unusedSimpArgs false
set_option linter.unusedVariables false
set_option maxRecDepth 100000
set_option maxHeartbeats 64000000
namespace Go.Proofs.YtdkhkfdenlabaaaGreatDoor
section
open Go.RowKit
namespace Sym
open ae (nd bu dg lI tab)
def dC (k : IntKind) (l : List Nat) : List Value := l.map fun (d : Nat) => Value.int k (d : Int)
theorem kN (k : IntKind) (l : List Nat) : (dC k l).length = l.length := by simp [dC]
theorem iH {k : IntKind} {l : List Nat} {i d : Nat} (h : l[i]? = some d) : (dC k l)[i]? = some (.int k (d : Int)) := by simp [dC, h]
theorem Gy (k : IntKind) (l m : List Nat) : dC k (l ++ m) = dC k l ++ dC k m := by simp [dC]
theorem ji (k : IntKind) (l : List Nat) (i d : Nat) : (dC k l).set i (.int k (d : Int)) = dC k (l.set i d) := by simp [dC, List.map_set]
theorem yM (k : IntKind) (l : List Nat) : ∀ u ∈ dC k l, u.oneCell' = true := by
 intro u hu
 simp only [dC, List.mem_map] at hu
 obtain ⟨d, -, rfl⟩ := hu
 rfl
abbrev nv (k : IntKind) (b x : Nat) : List Value := dC k (dg b x)
theorem jT (k : IntKind) (b x : Nat) : (nv k b x).length = nd b x := by rw [kN, ae.WX]
theorem eQ {k : IntKind} {b x i : Nat} (h : i < nd b x) : (nv k b x)[i]? = some (.int k (bu b i x : Nat)) := iH (ae.kQ _ _ _ _ h)
theorem iJ {k : IntKind} {b x : Nat} (h : 0 < nd b x) : nv k b x ≠ [] := fun e => by have := jT k b x; rw [e] at this; simp at this; omega
theorem kK {a : Option Addr} {xs ys : List Value} {w : World} (h : aS a xs w) (hp : ∀ (i : Nat) (v : Value), ys[i]? = some v -> xs[i]? = some v) : aS a ys w := fun i v hv => h i v (hp i v hv)
theorem dW {ad : Addr} {xs : List Value} {w : World} (h : aS (some ad) xs w) {i : Nat} {v : Value} (hv : xs[i]? = some v) : ∀ w', Below w.heap.size w w' -> w'.cell? (ad.add i) = some v := fun w' hb => by
 obtain ⟨a', e, _, hc⟩ := (h.below hb) i v hv
 cases e; exact hc
theorem qJ (a : Option Addr) (w : World) : aS a [] w := fun i v h => by simp at h
theorem ja {b n m x : Nat} (h : m <= n) (k : IntKind) : ∀ (i : Nat) (v : Value), (dC k (lI b m x))[i]? = some v -> (dC k (lI b n x))[i]? = some v := fun i v hv => by
 have hi : i < m := by have := (List.getElem?_eq_some_iff.1 hv).1; rw [kN, ae.nY] at this; exact this
 rw [iH (ae.kQ _ _ _ _ hi)] at hv
 rw [iH (ae.kQ _ _ _ _ (by omega)), hv]
def iT (k : IntKind) (b x : Nat) (w : World) (e : Ending) (w' : World) : Prop :=
 ∃ a cap, e = .returned (.slice a (nd b x) cap) /\ aS a (nv k b x) w' /\ bz a (nv k b x) w /\ (a = none -> cap = 0) /\ nd b x <= cap /\ Below w.heap.size w w'
def ET (k : IntKind) (b x y : Nat) (w : World) (e : Ending) (w' : World) : Prop :=
 ∃ a cap a2 cap2, e = .returned (.tuple #[.slice a (nd b x) cap, .slice a2 (nd b y) cap2]) /\ (aS a (nv k b x) w' /\ bz a (nv k b x) w /\ (a = none -> cap = 0) /\ nd b x <= cap) /\ (aS a2 (nv k b y) w' /\ bz a2 (nv k b y) w /\ (a2 = none -> cap2 = 0) /\ nd b y <= cap2) /\ Below w.heap.size w w'
theorem Mem.dS {base : Nat} {w0 : Base} {rows : List (Nat × Bool × aV)} {nx : Nat} {β : Nat -> Nat} {w : World} (hm : Mem base w0 rows nx β w) (j : Nat) {o : Bool} {bs : Nat} {a : Option Addr} {xs : List Value} (hj : get rows j = some (o, .aK (bV bs a xs))) : aS a xs w :=
 (hm.row j _ _ hj).1.2.at (hm.row j _ _ hj).1.1
theorem Mem.di {base : Nat} {w0 : Base} {rows : List (Nat × Bool × aV)} {nx : Nat} {β : Nat -> Nat} {w W : World} (hm : Mem base w0 rows nx β w) (j : Nat) {o : Bool} {a : Option Addr} {xs : List Value} (hj : get rows j = some (o, .aK (bV base a xs))) (e : W.heap.size = base) : bz a xs W :=
 (hm.row j _ _ hj).1.2.fresh e
theorem Mem.own {base : Nat} {w0 : Base} {rows : List (Nat × Bool × aV)} {nx : Nat} {β : Nat -> Nat} {w : World} (hm : Mem base w0 rows nx β w) (j : Nat) {e : TypeId} {sz g n cap : Nat} {xs : List Value} (hj : get rows j = some (true, .aK (dN e sz g n cap xs))) :
  aS (some ⟨g, 0, none⟩) xs w /\ base <= g /\ n <= cap := by
 obtain ⟨h1, -, -, h4⟩ := hm.row j _ _ hj
 refine ⟨h1.2.V5 h1.1, by rw [<- h1.2.1]; exact h4 rfl, ?_⟩
 obtain ⟨-, cur, -, h, -⟩ := h1.2
 exact h
theorem bY {g : Nat} {xs : List Value} {W : World} {base : Nat} (h : base <= g) (e : W.heap.size = base) : bz (some ⟨g, 0, none⟩) xs W := fun _ ad h' => by cases h'; dsimp only; omega
theorem aH {C : Ctx} {d : Nat} {f : FuncId} {args : List SV} {fr : List (Nat × SV)} {rows : List (Nat × Bool × aV)} {nx n : Nat} {K : St -> Prop} (k : IntKind) (b x : Nat) (h0 : 0 < C.base)
  (he : dK C.P f = true) (hd : Nat.blt d n = true) (hc : ∀ β w, Mem C.base C.w0 rows nx β w -> Calls C.P f (SV.aF β args).toArray w (iT k b x w))
  (h : ∀ a cap, (a = none -> cap = 0) -> nd b x <= cap -> (0 < nd b x -> ∃ ad, a = some ad) -> K ⟨(d, .any (.slice a (nd b x) cap)) :: fr, (nx, false, .aK (bV C.base a (nv k b x))) :: rows, nx + 1, n⟩) : fE C (some d) f args ⟨fr, rows, nx, n⟩ K :=
 Uz (T := {t : Option Addr × Nat // (t.1 = none -> t.2 = 0) /\ nd b x <= t.2}) (fun t => .any (.slice t.1.1 (nd b x) t.1.2)) (fun t => t.1.1) (fun _ => nv k b x) h0 he hd (fun _ => rfl)
  (fun β w hm => (hc β w hm).mono fun e w' ⟨a, cap, he, h1, h2, h3, h4, h5⟩ => ⟨h5, ⟨(a, cap), h3, h4⟩, he, h1, h2⟩)
  (fun t hs => h t.1.1 t.1.2 t.2.1 t.2.2 (fun hn => hs (iJ hn)))
theorem fU {C : Ctx} {d : Nat} {f : FuncId} {args : List SV} {fr : List (Nat × SV)} {rows : List (Nat × Bool × aV)} {nx n : Nat} {K : St -> Prop} (k : IntKind) (b x y : Nat) (h0 : 0 < C.base)
  (he : dK C.P f = true) (hd : Nat.blt d n = true) (hc : ∀ β w, Mem C.base C.w0 rows nx β w -> Calls C.P f (SV.aF β args).toArray w (ET k b x y w))
  (h : ∀ a cap a2 cap2, (a = none -> cap = 0) -> nd b x <= cap -> (0 < nd b x -> ∃ ad, a = some ad) -> (a2 = none -> cap2 = 0) -> nd b y <= cap2 -> (0 < nd b y -> ∃ ad, a2 = some ad) ->
   K ⟨(d, .bg [.any (.slice a (nd b x) cap), .any (.slice a2 (nd b y) cap2)]) :: fr, (nx + 1, false, .aK (bV C.base a2 (nv k b y))) :: (nx, false, .aK (bV C.base a (nv k b x))) :: rows, nx + 1 + 1, n⟩) : fE C (some d) f args ⟨fr, rows, nx, n⟩ K :=
 Qx (T := {t : (Option Addr × Nat) × (Option Addr × Nat) // ((t.1.1 = none -> t.1.2 = 0) /\ nd b x <= t.1.2) /\ ((t.2.1 = none -> t.2.2 = 0) /\ nd b y <= t.2.2)}) (fun t => .bg [.any (.slice t.1.1.1 (nd b x) t.1.1.2), .any (.slice t.1.2.1 (nd b y) t.1.2.2)]) (fun t => t.1.1.1) (fun t => t.1.2.1) (fun _ => nv k b x) (fun _ => nv k b y) h0 he hd (fun _ => ⟨rfl, rfl, trivial⟩)
  (fun β w hm => (hc β w hm).mono fun e w' ⟨a, cap, a2, cap2, he, ⟨h1, h2, h3, h4⟩, ⟨g1, g2, g3, g4⟩, h5⟩ => ⟨h5, ⟨((a, cap), (a2, cap2)), ⟨h3, h4⟩, ⟨g3, g4⟩⟩, he, ⟨h1, h2⟩, ⟨g1, g2⟩⟩)
  (fun t hs hs2 => h t.1.1.1 t.1.1.2 t.1.2.1 t.1.2.2 t.2.1.1 t.2.1.2 (fun hn => hs (iJ hn)) t.2.2.1 t.2.2.2 (fun hn => hs2 (iJ hn)))
theorem aP {C : Ctx} {G : eU} {x : Operand} {t : TypeId} {a : Addr} {j bs : Nat} {xs : List Value} (i : Nat) (v : SV) (hag : ∀ w, (isAgg t).run C.P w = .ok false w) (ri : G i = some (bV bs (some a) xs)) (hv : ∀ β, xs[j]? = some (v.den β)) :
  dH C G (.load t x) [.any (.pointer (some (a.add j)))] v := by
 unfold dH
 intro ρ β w dst ty pos after gd _ hG h
 have e1 : ρ x = .pointer (some (a.add j)) := by simpa [jg, SV.aF, SV.den] using h
 obtain ⟨h1, h2, -⟩ := hG i _ ri
 obtain ⟨ad, e, _, hc⟩ := h2 w rfl j _ (hv β)
 cases e
 simp [execOp, Instr.loadAt, Instr.sureAddr, e1, loadVar, hag, hc]
theorem rY {C : Ctx} {d : Nat} {ty : TypeId} {pos : String} {after : Array Edge} {gd : Option (Nat × Bool)} {fr : List (Nat × SV)} {rows : List (Nat × Bool × aV)} {nx n : Nat} {K : St -> Prop}
  {x y : Operand} {t e : TypeId} {sz : Nat} (i : Nat) {g n1 cap1 m c2 : Nat} {y0 : Option Addr} {xs ys : List Value} {inf : TypeInfo} {z : Value} (hd : Nat.blt d n = true)
  (ht : C.P.underlying t = some (.slice e)) (hi : C.P.info? e = some inf) (hz : inf.zero = some z) (hsize : inf.size = sz) (hzs : z.cells.size = sz) (h0 : 0 < sz)
  (hx : ev fr x = some (.any (.slice (some ⟨g, 0, none⟩) n1 cap1))) (hy : ev fr y = some (.any (.slice y0 m c2)))
  (ri : get rows i = some (true, .aK (dN e sz g n1 cap1 xs))) (hyn : y0 = none -> c2 = 0) (hyl : ys.length = m * sz) (hys : ∀ β w, Mem C.base C.w0 rows nx β w -> aS y0 ys w)
  (h63 : n1 + m <= maxLen) (hbytes : (n1 + m) * inf.bytes <= 140737488355328) (h1 : ∀ u ∈ ys, u.oneCell' = true) (hno : (wG i fr || rP i rows) = false) (hni : C.w0.n0 <= i)
  (h : ∀ g' cap', K ⟨(d, .any (.slice (some ⟨g', 0, none⟩) (n1 + m) cap')) :: fr, (i, true, .aK (dN e sz g' (n1 + m) cap' (xs ++ ys))) :: rows, nx, n⟩) :
  sZ C ⟨some d, .call ⟨.builtin .append, ⟨[x, y]⟩, ⟨[t, t]⟩⟩, ty, pos, after, gd⟩ ⟨fr, rows, nx, n⟩ K := by
 unfold sZ
 intro β a w hs next Q Rx
 have hm := hs.mem
 obtain ⟨qi, -, XA, Zc⟩ := hm.row i _ _ ri
 have XA : i < nx := XA
 have hown := dN.owns qi.2 (Zc rfl)
 have hg : β i = g := qi.2.1
 have hyw := hys β w hm
 have e1 := (bC hs hx).1
 have e2 := (bC hs hy).1
 have key : ∃ v' w', (Builtin.append_ #[t, t] ty #[.slice (some ⟨g, 0, none⟩) n1 cap1, .slice y0 m c2]).run C.P w = .ok v' w' /\ w'.ownsRow C.base e sz v' (n1 + m) (xs ++ ys) /\ w.grownBy w' (some g) /\ v' ≠ .slice none 0 0 /\ (v'.ownBlock = some g \/ v'.ownBlock = some w.heap.size) := by
  cases y0 with
  | none =>
    have hc2 := hyn rfl
    have hys0 : ys = [] := by
     cases ys with
     | nil => rfl
     | cons u r => obtain ⟨ad, e0, -⟩ := hyw 0 u rfl; cases e0
    subst hys0
    have hm0 : m = 0 := by
     rcases Nat.eq_zero_or_pos m with h' | h'
     ·exact h'
     ·have := Nat.mul_pos h' h0; simp at hyl; omega
    subst hm0 hc2
    have hr := run_append_owned_none (P := C.P) (w := w) C.base t ty e inf sz ht hi _ n1 xs hown
    refine ⟨_, w, hr, by simpa using hown, ⟨rfl, rfl, rfl, Nat.le_refl _, fun k _ _ => rfl⟩, by simp, .inl rfl⟩
  | some ad =>
    obtain ⟨v', w', hr, h2, h3, h4, h5⟩ := run_append_own_at (P := C.P) w C.base t ty e inf z sz inf.bytes ht hi hz hsize rfl hzs h0 _ n1 xs hown ad m c2 ys hyl (fun j u hj => by obtain ⟨ad', e0, -, hc⟩ := hyw j u hj; cases e0; exact hc) h1 h63 hbytes hm.aU
    exact ⟨v', w', hr, h2, h3, (fun e0 => by have := (h4.1 e0).1; cases this), h5⟩
 obtain ⟨v', w', hr, h2, h3, hnn, h5⟩ := key
 obtain ⟨hlen, hor⟩ := h2
 rcases hor with ⟨e0, e1⟩ | ⟨g', cap', cur, rfl, hb', hc', hn', hm', hs', ht'⟩
 ·exact absurd e0 hnn
 have hblk : g' = g \/ g' = w.heap.size := by simpa [Value.ownBlock] using h5
 unfold Oper.wp
 have hrun : (execOp a.eval ⟨some d, .call ⟨.builtin .append, ⟨[x, y]⟩, ⟨[t, t]⟩⟩, ty, pos, after, gd⟩).run C.P w = .ok (.value (.slice (some ⟨g', 0, none⟩) (n1 + m) cap')) w' := by
  unfold execOp
  simp only [resolve, invoke, builtin, Sem.run_bind, Sem.run_pure, Result.andThen_ok, List.map_toArray, List.map_cons, List.map_nil, e1, e2, SV.den, hr]
 rw [hrun]
 have hgs : g < w.heap.size := by rw [<- hg]; exact qi.1
 have hsz' : g' < w'.heap.size := by
  rcases Nat.lt_or_ge g' w'.heap.size with h0 | h0
  ·exact h0
  ·rw [Array.getElem?_eq_none h0] at hc'; cases hc'
 have hbg : C.base <= g := by rw [<- hg]; exact Zc rfl
 simp only [Bool.or_eq_false_iff] at hno
 have hβ : ∀ q, q ≠ i -> (fun q => if q = i then g' else β q) q = β q := fun q hq => by dsimp only; rw [if_neg hq]
 have hapart : ∀ q o r, get rows q = some (o, r) -> q ≠ i -> β q ≠ g := fun q o r hq hne => by rw [<- hg]; exact hm.inj i q _ o r ri hq hne
 have hother : ∀ p o r', get rows p = some (o, r') -> p ≠ i -> β p ≠ g' := fun p o r' hp hpi => by
  rcases hblk with e0 | e0
  ·rw [e0]; exact hapart p o r' hp hpi
  ·have := hm.lt p (hm.row p o r' hp).2.2.1; omega
 have hs2 : Sat C.base C.w0 ⟨fr, (i, true, .aK (dN e sz g' (n1 + m) cap' (xs ++ ys))) :: rows, nx, n⟩ (fun q => if q = i then g' else β q) a w' := by
  refine ⟨hs.defers, hs.size, fun s v hv => ?_, ⟨hm.below.os ▸ h3.os, hm.below.tape ▸ h3.tape, hm.below.output ▸ h3.output, Nat.le_trans hm.below.size h3.size, fun q hq => ?_⟩, Nat.le_trans hm.aU h3.size, fun q o r hq => ?_, fun q hq => ?_, fun q p r o r' hq hp hpq => ?_, hm.n0, fun q hq => ?_⟩
  ·obtain ⟨k1, k2⟩ := hs.slot s v hv
   exact ⟨by rw [k1, rQ hβ v (pI fr hno.1 hv)], k2⟩
  ·rw [h3.block q (zl hq hm.aU) (by simp; omega)]; exact hm.below.block q hq
  ·rw [aQ] at hq
   by_cases e0 : i = q
   ·rw [if_pos e0] at hq
    cases hq
    subst e0
    dsimp only
    rw [if_pos rfl]
    exact ⟨⟨hsz', rfl, cur, hc', hn', hm', hs', ht', hlen⟩, trivial, XA, fun _ => hb'⟩
   ·rw [if_neg e0] at hq
    obtain ⟨k1, k2, k3, k4⟩ := hm.row q o r hq
    have hqi : q ≠ i := fun e => e0 e.symm
    dsimp only
    rw [if_neg hqi]
    have k5 := yU (h3.block _ (hm.lt q k3) (by simp; exact hapart q o r hq hqi)) h3.size k1
    refine ⟨?_, k2, k3, k4⟩
    cases r with
    | cells t' cs => simp only [gU] at k5 ⊢; rw [jd hβ cs (kz rows hno.2 hq)]; exact k5
    | aK Φ => exact k5
  ·have hq : q < nx := hq
   by_cases e0 : q = i
   ·rw [if_pos e0]; exact hsz'
   ·rw [if_neg e0]; exact zl (hm.lt q hq) h3.size
  ·rw [aQ] at hq hp
   by_cases e0 : i = q
   ·rw [if_neg (by omega)] at hp
    rw [if_pos e0.symm, if_neg (by omega)]
    exact hother p o r' hp (by omega)
   ·rw [if_neg e0] at hq
    rw [if_neg (by omega : ¬ q = i)]
    by_cases e2 : i = p
    ·rw [if_pos e2.symm]; exact fun e3 => hother q _ _ hq (by omega) e3.symm
    ·rw [if_neg e2] at hp
     rw [if_neg (by omega)]
     exact hm.inj q p r o r' hq hp hpq
  ·rw [if_neg (by omega)]; exact hm.ext q hq
 have hs3 := hs2.put (d := d) (by simpa [Nat.blt_eq] using hd) (v := .any (.slice (some ⟨g', 0, none⟩) (n1 + m) cap')) rfl
 exact Rx _ _ _ _ (h g' cap') hs3
end Sym
end
section
namespace ae
theorem XP {b V j d N : Nat} (hb : 0 < b) (hd : d < b) (hj : j < N) (hV : V < b ^ N) : upd b V j d < b ^ N := by
 unfold upd
 have h1 : V % b ^ j + d * b ^ j < b ^ (j + 1) := qK (Nat.mod_lt _ (Nat.pow_pos hb)) hd
 have e : b ^ N = b ^ (N - (j + 1)) * b ^ (j + 1) := by rw [<- Nat.pow_add]; congr 1; omega
 have h2 : V / b ^ (j + 1) < b ^ (N - (j + 1)) := Nat.div_lt_of_lt_mul (by rw [Nat.mul_comm, <- e]; exact hV)
 have h3 := Nat.mul_le_mul_right (b ^ (j + 1)) (Nat.succ_le_of_lt h2)
 rw [Nat.succ_mul, <- e] at h3
 omega
theorem JX {b V j d : Nat} (h : V < b ^ j) : upd b V j d = V + d * b ^ j := by
 have := Gv b V j d
 rw [A8 h] at this
 omega
structure qV (b x y lb i k c V : Nat) : Prop where
 eq : V + c * b ^ (i + k) = (x % b ^ i) * y + bu b i x * b ^ i * (y % b ^ k)
 lt : V < b ^ (i + lb)
 bit : c < b
theorem Md {b x y lb i k c V n : Nat} (hb : 2 <= b) (h : qV b x y lb i k c V) (hk : k < lb) (hn : n = bu b i x * bu b k y + bu b (i + k) V + c) : qV b x y lb i (k + 1) (n / b) (upd b V (i + k) (n % b)) := by
 obtain ⟨h1, h2, h3⟩ := h
 refine ⟨?_, XP (by omega) (Nat.mod_lt _ (by omega)) (by omega) h2, ?_⟩
 ·have e := Gv b V (i + k) (n % b)
  have e1 := Nat.mod_add_div n b
  generalize upd b V (i + k) (n % b) = V' at *
  rw [iG]
  have e2 := congrArg (· * b ^ (i + k)) e1
  rw [Nat.add_mul] at e2
  rw [<- Nat.add_assoc i k 1, Nat.pow_succ, Nat.mul_add (bu b i x * b ^ i)]
  have e3 : n / b * (b ^ (i + k) * b) = b * (n / b) * b ^ (i + k) := by simp [Nat.mul_comm, Nat.mul_left_comm, Nat.mul_assoc]
  have e4 : bu b i x * b ^ i * (bu b k y * b ^ k) = bu b i x * bu b k y * b ^ (i + k) := by rw [Nat.pow_add]; simp [Nat.mul_comm, Nat.mul_left_comm, Nat.mul_assoc]
  rw [e3, e4]
  rw [hn, Nat.add_mul, Nat.add_mul, <- hn] at e2
  omega
 ·have hx := dG (by omega : 0 < b) i x
  have hy := dG (by omega : 0 < b) k y
  have hv := dG (by omega : 0 < b) (i + k) V
  obtain ⟨p, rfl⟩ : ∃ p, b = p + 1 := ⟨b - 1, by omega⟩
  have h4 : bu (p + 1) i x * bu (p + 1) k y <= p * p := Nat.mul_le_mul (by omega) (by omega)
  rw [Nat.div_lt_iff_lt_mul (by omega)]
  rw [hn, Nat.add_mul, Nat.mul_add]
  omega
theorem PZ {b x y lb i c V : Nat} (hb : 2 <= b) (h : qV b x y lb i lb c V) (hy : y < b ^ lb) : upd b V (i + lb) c = (x % b ^ (i + 1)) * y /\ qV b x y lb (i + 1) 0 0 (upd b V (i + lb) c) := by
 obtain ⟨h1, h2, h3⟩ := h
 have e : upd b V (i + lb) c = (x % b ^ (i + 1)) * y := by
  rw [JX h2, h1, Nat.mod_eq_of_lt hy, iG, Nat.add_mul]
 refine ⟨e, ?_⟩
 rw [e]
 refine ⟨by simp [Nat.mod_one], ?_, by omega⟩
 have : x % b ^ (i + 1) < b ^ (i + 1) := Nat.mod_lt _ (Nat.pow_pos (by omega))
 rw [Nat.pow_add b (i + 1) lb]
 exact Nat.mul_lt_mul'' this hy
theorem JV {b x y lb : Nat} (hb : 2 <= b) : qV b x y lb 0 0 0 0 := ⟨by simp [Nat.mod_one], Nat.pow_pos (by omega), by omega⟩
def FW (b x y i j : Nat) : Nat := bu b j ((x % b ^ i) * y) + if i <= j then bu b i x * bu b (j - i) y else 0
structure Aq (b x y i k c S : Nat) : Prop where
 eq : S + c * b ^ k = ((x % b ^ i) * y) % b ^ k + bu b i x * b ^ i * (y % b ^ (k - i))
 lt : S < b ^ k
theorem Hf {b x y i : Nat} (hb : 2 <= b) : Aq b x y i i 0 (((x % b ^ i) * y) % b ^ i) := ⟨by simp [Nat.mod_one], Nat.mod_lt _ (Nat.pow_pos (by omega))⟩
theorem KE {b x y i k c S d : Nat} (hb : 2 <= b) (h : Aq b x y i k c S) (hk : i <= k) (hd : d = FW b x y i k + c) : Aq b x y i (k + 1) (d / b) (S + d % b * b ^ k) := by
 obtain ⟨h1, h2⟩ := h
 refine ⟨?_, qK h2 (Nat.mod_lt _ (by omega))⟩
 have e1 := Nat.mod_add_div d b
 have e2 := congrArg (· * b ^ k) e1
 rw [Nat.add_mul] at e2
 have ek : k + 1 - i = (k - i) + 1 := by omega
 rw [iG, ek, iG, Nat.mul_add (bu b i x * b ^ i), Nat.pow_succ]
 have e3 : d / b * (b ^ k * b) = b * (d / b) * b ^ k := by simp [Nat.mul_comm, Nat.mul_left_comm, Nat.mul_assoc]
 have e4 : bu b i x * b ^ i * (bu b (k - i) y * b ^ (k - i)) = bu b i x * bu b (k - i) y * b ^ k := by
  have : b ^ k = b ^ i * b ^ (k - i) := by rw [<- Nat.pow_add]; congr 1; omega
  rw [this]; simp [Nat.mul_comm, Nat.mul_left_comm, Nat.mul_assoc]
 rw [e3, e4]
 unfold FW at hd
 rw [if_pos hk] at hd
 have e5 : d * b ^ k = bu b k (x % b ^ i * y) * b ^ k + bu b i x * bu b (k - i) y * b ^ k + c * b ^ k := by rw [hd, Nat.add_mul, Nat.add_mul]
 omega
theorem Og {b x y i N c S : Nat} (hb : 2 <= b) (h : Aq b x y i N c S) (hN : (x % b ^ (i + 1)) * y < b ^ N) (hi : i <= N) (hy : y < b ^ (N - i)) : S = (x % b ^ (i + 1)) * y /\ c = 0 := by
 obtain ⟨h1, h2⟩ := h
 have hm : (x % b ^ i) * y <= (x % b ^ (i + 1)) * y := Nat.mul_le_mul_right _ (by rw [iG]; omega)
 rw [Nat.mod_eq_of_lt (by omega : (x % b ^ i) * y < b ^ N), Nat.mod_eq_of_lt hy, <- Nat.add_mul, <- iG] at h1
 have hc : c = 0 := by
  rcases Nat.eq_zero_or_pos c with h0 | h0
  ·exact h0
  ·have := Nat.le_mul_of_pos_left (b ^ N) h0; omega
 subst hc
 omega
theorem MR {b r d : Nat} (hb : 0 < b) (hd : d < b) (n : Nat) : lI b (n + 1) (d + r * b) = d :: lI b n r := by
 apply List.ext_getElem?
 intro i
 have hl : d < b ^ 1 := by simpa using hd
 have e : ∀ k, bu b k (d + r * b) = if k < 1 then bu b k d else bu b (k - 1) r := fun k => by have := kR hb hl (m := r) k; simpa using this
 cases i with
 | zero =>
   rw [kQ _ _ _ _ (by omega), e, if_pos (by omega)]
   simp [bu, Nat.mod_eq_of_lt hd]
 | succ i =>
   rw [List.getElem?_cons_succ]
   by_cases h : i < n
   ·rw [kQ _ _ _ _ (by omega), kQ _ _ _ _ h, e, if_neg (by omega)]; rfl
   ·rw [List.getElem?_eq_none (by rw [nY]; omega), List.getElem?_eq_none (by rw [nY]; omega)]
theorem MV {b r d n : Nat} (hd : d < b) (hr : r < b ^ n) : d + r * b < b ^ (n + 1) := by
 rw [Nat.pow_succ]
 have := Nat.mul_le_mul_right b (Nat.succ_le_of_lt hr)
 rw [Nat.succ_mul] at this
 omega
theorem div_pow (b x i : Nat) : x / b ^ i = x / b ^ (i + 1) * b + bu b i x := by
 unfold bu
 have := Nat.div_add_mod (x / b ^ i) b
 rw [Nat.div_div_eq_div_mul, <- Nat.pow_succ, Nat.mul_comm, Nat.succ_eq_add_one] at this
 omega
theorem QX {m X X1 b d : Nat} (h : X = X1 * b + d) : X / m = X1 / m * b + (d + X1 % m * b) / m /\ X % m = (d + X1 % m * b) % m := by
 have e : X = (d + X1 % m * b) + X1 / m * b * m := by
  have := Nat.div_add_mod X1 m
  have e2 := congrArg (· * b) this
  rw [Nat.add_mul] at e2
  have : X1 / m * b * m = m * (X1 / m) * b := by simp [Nat.mul_comm, Nat.mul_left_comm, Nat.mul_assoc]
  omega
 rcases Nat.eq_zero_or_pos m with h0 | h0
 ·subst h0; simp; rw [h]; omega
 ·constructor
  ·rw [e, Nat.add_mul_div_right _ _ h0]; omega
  ·rw [e, Nat.add_mul_mod_self_right]
theorem VJ {m r b d : Nat} (hr : r < m) (hd : d < b) : (d + r * b) / m < b := by
 rw [Nat.div_lt_iff_lt_mul (by omega)]
 have := Nat.mul_le_mul_right b (Nat.succ_le_of_lt hr)
 rw [Nat.succ_mul] at this
 rw [Nat.mul_comm b m]
 omega
structure G5 (b x m i V r : Nat) : Prop where
 v : V = x / b ^ i / m * b ^ i
 r : r = x / b ^ i % m
theorem xI {b x m N : Nat} (h : x < b ^ N) : G5 b x m N 0 0 := ⟨by rw [Nat.div_eq_of_lt h]; simp, by rw [Nat.div_eq_of_lt h]; simp⟩
theorem zI {b Q i : Nat} (hb : 2 <= b) : bu b i (Q * b ^ (i + 1)) = 0 := by
 unfold bu
 rw [Nat.pow_succ, <- Nat.mul_assoc, Nat.mul_right_comm, Nat.mul_div_cancel _ (Nat.pow_pos (by omega))]
 simp
theorem Bd {b x m i V r q : Nat} (hb : 2 <= b) (hm : 0 < m) (h : G5 b x m (i + 1) V r) (hq : q = (bu b i x + r * b) / m) : G5 b x m i (upd b V i q) ((bu b i x + r * b) % m) /\ q < b := by
 obtain ⟨h1, h2⟩ := h
 have hr : r < m := by rw [h2]; exact Nat.mod_lt _ hm
 have hd := dG (by omega : 0 < b) i x
 obtain ⟨s1, s2⟩ := QX (m := m) (div_pow b x i)
 rw [<- h2] at s1 s2
 refine ⟨⟨?_, s2.symm⟩, by rw [hq]; exact VJ hr hd⟩
 have e := Gv b V i q
 have e0 : bu b i V = 0 := by rw [h1]; exact zI hb
 rw [e0] at e
 rw [s1, <- hq, Nat.add_mul]
 have : x / b ^ (i + 1) / m * b * b ^ i = V := by rw [h1, Nat.pow_succ]; simp [Nat.mul_comm, Nat.mul_left_comm, Nat.mul_assoc]
 omega
theorem Fh {b x m V r : Nat} (h : G5 b x m 0 V r) : V = x / m /\ r = x % m := by
 obtain ⟨h1, h2⟩ := h
 simpa using And.intro h1 h2
theorem div_lt {b x m i V r N : Nat} (hb : 0 < b) (h : G5 b x m i V r) (hx : x < b ^ N) : V < b ^ N := by
 obtain ⟨h1, -⟩ := h
 have h2 : x / b ^ i / m * b ^ i <= x := Nat.le_trans (Nat.mul_le_mul_right _ (Nat.div_le_self _ _)) (Nat.div_mul_le_self _ _)
 omega
theorem OB {b r y k : Nat} : r / b ^ k / (y / b ^ k + 1) <= r / y \/ y = 0 := by
 rcases Nat.eq_zero_or_pos y with h0 | h0
 ·exact .inr h0
 left
 rw [Nat.le_div_iff_mul_le h0]
 rcases Nat.eq_zero_or_pos (b ^ k) with hp | hp
 ·rw [hp]; simp
 have h1 : y < (y / b ^ k + 1) * b ^ k := by
  have := Nat.lt_mul_div_succ y hp
  rw [Nat.mul_comm]; exact this
 generalize ht : r / b ^ k / (y / b ^ k + 1) = t
 have h2 : t * (y / b ^ k + 1) <= r / b ^ k := by rw [<- ht]; exact Nat.div_mul_le_self _ _
 calc t * y <= t * ((y / b ^ k + 1) * b ^ k) := Nat.mul_le_mul_left _ (by omega)
  _ = t * (y / b ^ k + 1) * b ^ k := by rw [Nat.mul_assoc]
  _ <= r / b ^ k * b ^ k := Nat.mul_le_mul_right _ h2
  _ <= r := Nat.div_mul_le_self _ _
theorem OC {b r y k : Nat} (hp : 0 < b ^ k) (hy : 0 < y / b ^ k) : r / y <= r / b ^ k / (y / b ^ k) := by
 rw [Nat.le_div_iff_mul_le hy, Nat.le_div_iff_mul_le hp]
 calc r / y * (y / b ^ k) * b ^ k = r / y * (y / b ^ k * b ^ k) := by rw [Nat.mul_assoc]
  _ <= r / y * y := Nat.mul_le_mul_left _ (Nat.div_mul_le_self _ _)
  _ <= r := Nat.div_mul_le_self _ _
theorem lead {b y : Nat} (hb : 2 <= b) (hy : 0 < y) : bu b (nd b y - 1) y = y / b ^ (nd b y - 1) /\ 0 < y / b ^ (nd b y - 1) := by
 have h0 := (fM hb).2 hy
 have h1 := dP hb y
 have e : nd b y = nd b y - 1 + 1 := by omega
 constructor
 ·unfold bu
  apply Nat.mod_eq_of_lt
  apply Nat.div_lt_of_lt_mul
  rw [<- Nat.pow_succ, Nat.succ_eq_add_one, <- e]; exact h1
 ·exact Nat.div_pos (pG hb (by omega)) (Nat.pow_pos (by omega))
theorem Vu {g : Nat} (h : ¬ 2 ∣ g) : Nat.Coprime g 2 := by
 have h1 : Nat.gcd g 2 ∣ 2 := Nat.gcd_dvd_right _ _
 have h2 := Nat.le_of_dvd (by omega) h1
 have h3 : 0 < Nat.gcd g 2 := Nat.pos_of_dvd_of_pos h1 (by omega)
 have h4 : Nat.gcd g 2 ≠ 2 := fun e => h (by rw [<- e]; exact Nat.gcd_dvd_left _ _)
 unfold Nat.Coprime
 omega
theorem Il {n m : Nat} (h : ¬ 2 ∣ Nat.gcd (2 * n) m) : Nat.gcd n m = Nat.gcd (2 * n) m := by
 apply Nat.dvd_antisymm
 ·exact Nat.dvd_gcd (Nat.dvd_trans (Nat.gcd_dvd_left _ _) (Nat.dvd_mul_left _ _)) (Nat.gcd_dvd_right _ _)
 ·exact Nat.dvd_gcd ((Vu h).dvd_of_dvd_mul_left (Nat.gcd_dvd_left _ _)) (Nat.gcd_dvd_right _ _)
theorem Oz {n m : Nat} (h : ¬ 2 ∣ Nat.gcd m (2 * n)) : Nat.gcd m n = Nat.gcd m (2 * n) := by
 rw [Nat.gcd_comm m n, Nat.gcd_comm m (2 * n)]
 exact Il (by rw [Nat.gcd_comm]; exact h)
end ae
end
section
open Sym
namespace ae
def oM (b x y : Nat) : Int := if nd b x ≠ nd b y then (nd b x : Int) - nd b y else if x < y then -1 else if y < x then 1 else 0
theorem cmp_neg {b x y : Nat} (hb : 2 <= b) : oM b x y < 0 ↔ x < y := by
 unfold oM
 split
 ·rename_i h
  constructor
  ·intro h1; exact tY hb (by omega)
  ·intro h1
   rcases Nat.lt_or_ge (nd b x) (nd b y) with h2 | h2
   ·omega
   ·have := tY hb (x := y) (y := x) (by omega); omega
 ·split
  ·simp [*]
  ·split <;> simp [*]
theorem QG {b x y : Nat} (hb : 2 <= b) : oM b x y = 0 ↔ x = y := by
 unfold oM
 split
 ·rename_i h
  constructor
  ·intro h1; omega
  ·rintro rfl; exact absurd rfl h
 ·split
  ·constructor <;> intro h <;> omega
  ·split
   ·constructor <;> intro h <;> omega
   ·constructor <;> intro h <;> omega
theorem Ae (b : Nat) {x y : Nat} (hb : 2 <= b) : (0 <= oM b x y ↔ y <= x) /\ (0 < oM b x y ↔ y < x) /\ (oM b x y <= 0 ↔ x <= y) := by
 have h1 := cmp_neg hb (x := x) (y := y)
 have h2 := QG hb (x := x) (y := y)
 omega
theorem UH {b x y j : Nat} (hb : 2 <= b) (hn : nd b x = nd b y) (h : x / b ^ (j + 1) = y / b ^ (j + 1)) (hd : bu b j x ≠ bu b j y) : oM b x y = if bu b j x < bu b j y then -1 else 1 := by
 unfold oM
 rw [if_neg (by omega)]
 rcases Nat.lt_or_ge (bu b j x) (bu b j y) with h1 | h1
 ·have := vV (b := b) (by omega) h h1
  rw [if_pos this, if_pos h1]
 ·have := vV (b := b) (by omega) h.symm (by omega : bu b j y < bu b j x)
  rw [if_neg (by omega), if_pos this, if_neg (by omega)]
theorem QD {b x y : Nat} (h : x / b ^ 0 = y / b ^ 0) : oM b x y = 0 := by
 simp only [Nat.pow_zero, Nat.div_one] at h
 subst h
 unfold oM
 simp
theorem Vz {b x : Nat} (hb : 2 <= b) : x = 1 ↔ (nd b x = 1 /\ bu b 0 x = 1) := by
 constructor
 ·rintro rfl
  exact ⟨wI hb (by simp; omega) (.inr (by simp)), by simp [bu, Nat.mod_eq_of_lt (show 1 < b by omega)]⟩
 ·rintro ⟨h1, h2⟩
  have h3 := dP hb x
  rw [h1, Nat.pow_one] at h3
  simp only [bu, Nat.pow_zero, Nat.div_one, Nat.mod_eq_of_lt h3] at h2
  exact h2
theorem sH {k : IntKind} {b i S d : Nat} {v : Int} (hb : 0 < b) (hS : S < b ^ i) (hd : d < b) (hv : v = (d : Int)) : dC k (lI b i S) ++ [.int k v] = dC k (lI b (i + 1) (S + d * b ^ i)) := by
 rw [QV hb hS hd, Gy, hv]; rfl
theorem vY {b i x : Nat} (hb : 2 <= b) (h : nd b x <= i) : bu b i x = 0 := A8 (dQ (by omega) (dP hb x) h)
theorem Em {b x y i c S : Nat} (hb : 2 <= b) (h : Au b x y i c S) (h1 : nd b x < i) (h2 : nd b y < i) : c = 0 := by
 obtain ⟨e, l, -⟩ := h
 have hx := dQ (by omega : 0 < b) (dP hb x) (show nd b x <= i - 1 by omega)
 have hy := dQ (by omega : 0 < b) (dP hb y) (show nd b y <= i - 1 by omega)
 have hp : 2 * b ^ (i - 1) <= b ^ i := by
  have : b ^ i = b ^ (i - 1) * b := by rw [<- Nat.pow_succ]; congr 1; omega
  rw [this, Nat.mul_comm]; exact Nat.mul_le_mul_left _ hb
 rw [Nat.mod_eq_of_lt (by omega), Nat.mod_eq_of_lt (by omega)] at e
 rcases Nat.eq_zero_or_pos c with h0 | h0
 ·exact h0
 ·have := Nat.le_mul_of_pos_left (b ^ i) h0; omega
def uw (b n i D x : Nat) : List Nat := tab n (fun j => if j < i then bu b j D else bu b j x)
theorem RN (b n D x : Nat) : uw b n 0 D x = lI b n x := by unfold uw lI; exact iQ fun k _ => by simp
theorem Vh (b n D x : Nat) : uw b n n D x = lI b n D := by unfold uw lI; exact iQ fun k hk => by rw [if_pos hk]
theorem Vm {b n i D x d : Nat} (hb : 0 < b) (hD : D < b ^ i) (hd : d < b) : (uw b n i D x).set i d = uw b n (i + 1) (D + d * b ^ i) x := by
 unfold uw
 rw [Ap]
 apply iQ
 intro k hk
 have e := kR hb hD (m := d) k
 by_cases h1 : k < i
 ·rw [if_neg (by omega), if_pos h1, if_pos (by omega), e, if_pos h1]
 ·by_cases h2 : k = i
  ·subst h2
   rw [if_pos rfl, if_pos (by omega), e, if_neg h1, Nat.sub_self]
   simp [bu, Nat.mod_eq_of_lt hd]
  ·rw [if_neg h2, if_neg h1, if_neg (by omega)]
theorem Vj {b n i D x : Nat} (h : i < n) : (uw b n i D x)[i]? = some (bu b i x) := by
 unfold uw; rw [uk _ _ _ h, if_neg (by omega)]
theorem Vk (b n i D x : Nat) : (uw b n i D x).length = n := um _ _
theorem U9 {b r y : Nat} (hb : 2 <= b) (hy : 0 < y) (h : r < y * b) : r / b ^ (nd b y - 1) < b * b := by
 have h0 := (fM hb).2 hy
 have h1 := dP hb y
 have e : nd b y = nd b y - 1 + 1 := by omega
 rw [e, Nat.pow_succ] at h1
 apply Nat.div_lt_of_lt_mul
 have h2 : y * b < b ^ (nd b y - 1) * b * b := by rw [Nat.mul_lt_mul_right (by omega)]; exact h1
 rw [Nat.mul_assoc] at h2
 omega
theorem dD {b x y : Nat} (hb : 2 <= b) (h : x <= y) : nd b x <= nd b y := by
 rcases Nat.lt_or_ge (nd b y) (nd b x) with h1 | h1
 ·have := tY hb h1; omega
 ·exact h1
theorem A7 {b d : Nat} (hb : 2 <= b) (hd : d < b) : nd b d <= 1 := dX hb (by simpa using hd)
theorem rD {b d : Nat} (hd : d < b) : lI b 1 d = [d] := by simp [lI, tab, bu, Nat.mod_eq_of_lt hd]
theorem iV {b x y : Nat} (hb : 2 <= b) : nd b (x * y) <= nd b x + nd b y := dX hb (by rw [Nat.pow_add]; exact Nat.mul_lt_mul'' (dP hb x) (dP hb y))
end ae
end
section
namespace ae
abbrev Str := List UInt8
def rC (x : Nat) : Str := if x = 0 then [] else Lib.decDigits x
theorem tu {x : Nat} (h : ¬ x < 10) : Lib.decDigits x = Lib.decDigits (x / 10) ++ [UInt8.ofNat (48 + x % 10)] := by
 rw [Lib.decDigits, dif_neg h]
theorem Oo {x : Nat} (h : 0 < x) : rC x = rC (x / 10) ++ [UInt8.ofNat (48 + x % 10)] := by
 unfold rC
 rw [if_neg (by omega)]
 by_cases h1 : x < 10
 ·rw [if_pos (Nat.div_eq_of_lt h1), Lib.decDigits_one h1, Nat.mod_eq_of_lt h1]; rfl
 ·rw [if_neg (by omega), tu h1]
theorem DR {x i : Nat} (h : i < nd 10 x) : rC (x / 10 ^ i) = rC (x / 10 ^ (i + 1)) ++ [UInt8.ofNat (48 + bu 10 i x)] := by
 have h1 := pG (by omega : 2 <= 10) h
 have h2 : 0 < x / 10 ^ i := Nat.div_pos h1 (Nat.pow_pos (by omega))
 rw [Oo h2, Nat.div_div_eq_div_mul, <- Nat.pow_succ]; rfl
theorem tC {x : Nat} (h : 0 < x) : rC x = Lib.decDigits x := if_neg (by omega)
def Jd : Nat -> Nat -> Str
 | 0, _ => []
 | k + 1, d => Jd k (d / 10) ++ [UInt8.ofNat (48 + d % 10)]
theorem Nb : ∀ (k y d : Nat), 0 < y -> d < 10 ^ k -> Lib.decDigits (y * 10 ^ k + d) = Lib.decDigits y ++ Jd k d
 | 0, y, d, hy, hd => by
   obtain rfl : d = 0 := by simpa using hd
   simp [Jd]
 | k + 1, y, d, hy, hd => by
   have h1 : d / 10 < 10 ^ k := Nat.div_lt_of_lt_mul (by rw [Nat.mul_comm, <- Nat.pow_succ]; exact hd)
   have e : y * 10 ^ (k + 1) + d = (y * 10 ^ k + d / 10) * 10 + d % 10 := by rw [Nat.pow_succ, Nat.add_mul]; have := Nat.mul_assoc y (10 ^ k) 10; omega
   have hb : ¬ y * 10 ^ (k + 1) + d < 10 := by
    have : 10 ^ (k + 1) <= y * 10 ^ (k + 1) := Nat.le_mul_of_pos_left _ hy
    have : 1 <= 10 ^ k := Nat.pow_pos (by omega)
    rw [Nat.pow_succ] at *
    omega
   rw [tu hb, Jd, <- List.append_assoc, <- Nb k y (d / 10) hy h1]
   have e1 : (y * 10 ^ (k + 1) + d) / 10 = y * 10 ^ k + d / 10 := by omega
   have e2 : (y * 10 ^ (k + 1) + d) % 10 = d % 10 := by omega
   rw [e1, e2]
theorem Eg : ∀ k, Jd k 0 = List.replicate k 48
 | 0 => rfl
 | k + 1 => by
   rw [Jd, Nat.zero_div, Eg k, List.replicate_succ']; rfl
theorem F8 : ∀ (k d : Nat), 0 < k -> d < 10 ^ k -> Jd k d = List.replicate (k - (Lib.decDigits d).length) 48 ++ Lib.decDigits d /\ (Lib.decDigits d).length <= k
 | 0, _, h, _ => by omega
 | k + 1, d, _, hd => by
   rw [Jd]
   by_cases h : d < 10
   ·rw [Nat.div_eq_of_lt h, Eg, Lib.decDigits_one h, Nat.mod_eq_of_lt h]
    exact ⟨by simp, by simp⟩
   ·have h1 : d / 10 < 10 ^ k := Nat.div_lt_of_lt_mul (by rw [Nat.mul_comm, <- Nat.pow_succ]; exact hd)
    have hk : 0 < k := by
     rcases Nat.eq_zero_or_pos k with h0 | h0
     ·subst h0; simp at hd; omega
     ·exact h0
    obtain ⟨e1, e2⟩ := F8 k (d / 10) hk h1
    rw [e1, tu h, List.append_assoc]
    refine ⟨?_, by simp; omega⟩
    congr 2
    simp
theorem QU {x i : Nat} (h : i < nd 1000000000 x) (h1 : 0 < x / 1000000000 ^ (i + 1)) : rC (x / 1000000000 ^ i) = rC (x / 1000000000 ^ (i + 1)) ++ (List.replicate (9 - (Lib.decDigits (bu 1000000000 i x)).length) 48 ++ Lib.decDigits (bu 1000000000 i x)) /\ (Lib.decDigits (bu 1000000000 i x)).length <= 9 := by
 have hd := dG (by omega : 0 < 1000000000) i x
 have e9 : (1000000000 : Nat) = 10 ^ 9 := by decide
 obtain ⟨p1, p2⟩ := F8 9 (bu 1000000000 i x) (by omega) (by rw [<- e9]; exact hd)
 refine ⟨?_, p2⟩
 rw [<- p1]
 have h2 : 0 < x / 1000000000 ^ i := by rw [div_pow]; omega
 rw [tC h2, tC h1, div_pow]
 exact Nb 9 _ _ h1 (by rw [<- e9]; exact hd)
def Aa (v : Nat) (s : Str) : Nat := s.foldl (fun v c => v * 10 + (c.toNat - 48)) v
def ax (s : Str) : Nat := Aa 0 s
theorem jK (v : Nat) (c : UInt8) (r : Str) : Aa v (c :: r) = Aa (v * 10 + (c.toNat - 48)) r := by unfold Aa; rw [List.foldl_cons]
theorem nO (v : Nat) : Aa v [] = v := by unfold Aa; rw [List.foldl_nil]
theorem Gx (s : Str) : ∀ v : Nat, Aa v s = v * 10 ^ s.length + ax s := by
 induction s with
 | nil => intro v; simp [ax, nO]
 | cons c r ih =>
   intro v
   unfold ax
   rw [jK, jK, ih, ih (0 * 10 + _), List.length_cons, Nat.pow_succ, Nat.add_mul, Nat.add_mul]
   have : v * 10 * 10 ^ r.length = v * (10 ^ r.length * 10) := by simp [Nat.mul_comm, Nat.mul_left_comm, Nat.mul_assoc]
   omega
theorem JZ (s t : Str) (v : Nat) : Aa v (s ++ t) = Aa (Aa v s) t := by unfold Aa; rw [List.foldl_append]
theorem val_append (s t : Str) : ax (s ++ t) = ax s * 10 ^ t.length + ax t := by
 unfold ax; rw [JZ, Gx]; rfl
def aY (c : UInt8) : Bool := 48 <= c && c <= 57
theorem jR {c : UInt8} : aY c = true ↔ 48 <= c.toNat /\ c.toNat <= 57 := by
 simp [aY, UInt8.le_iff_toNat_le]
theorem jW : ∀ s : Str, s.all aY = true -> ax s < 10 ^ s.length
 | [], _ => by simp [ax, nO]
 | c :: r, h => by
   simp only [List.all_cons, Bool.and_eq_true] at h
   have h1 := jR.1 h.1
   have h2 := jW r h.2
   have e2 : ax (c :: r) = (c.toNat - 48) * 10 ^ r.length + ax r := by
    unfold ax
    rw [jK, Gx]; simp [ax]
   rw [e2, List.length_cons, Nat.pow_succ]
   have h3 : (c.toNat - 48) * 10 ^ r.length <= 9 * 10 ^ r.length := Nat.mul_le_mul_right _ (by omega)
   omega
theorem wZ (s : Str) (c : UInt8) : ax (s ++ [c]) = ax s * 10 + (c.toNat - 48) := by
 rw [val_append]; simp [ax, jK, nO]
theorem oI (x : Nat) : ax (Lib.decDigits x) = x := by
 induction x using Nat.strongRecOn with
 | _ x ih =>
   have hm : (UInt8.ofNat (48 + x % 10)).toNat = 48 + x % 10 := by simp; omega
   by_cases h : x < 10
   ·rw [Lib.decDigits_one h]
    rw [Nat.mod_eq_of_lt h] at hm
    simp only [ax, jK, nO, hm]; omega
   ·rw [tu h, wZ, ih _ (by omega), hm]; omega
theorem jA (x : Nat) : (Lib.decDigits x).all aY = true := by
 induction x using Nat.strongRecOn with
 | _ x ih =>
   have hm : (UInt8.ofNat (48 + x % 10)).toNat = 48 + x % 10 := by simp; omega
   have hc : aY (UInt8.ofNat (48 + x % 10)) = true := jR.2 (by rw [hm]; omega)
   by_cases h : x < 10
   ·rw [Lib.decDigits_one h]
    rw [Nat.mod_eq_of_lt h] at hc
    simpa using hc
   ·rw [tu h, List.all_append, ih _ (by omega)]; simpa using hc
end ae
end
section
namespace ae
structure Num where
 m : Bool
 n : Nat
 d : Nat
abbrev Fr := Str × Str
def dw (s : Str) : Bool := !s.isEmpty && ((s.getD 0 0 != 48 || decide (s.length <= 1)) && s.all aY)
def aO (s : Str) : Str × Bool := if s.head? = some 45 then (s.tail, true) else (s, false)
def az (f : Fr) : Num := ⟨(aO f.1).2, ax (aO f.1).1, ax f.2⟩
def bQ (f : Fr) : Int :=
 if dw (aO f.1).1 = false \/ dw f.2 = false \/ f.2 = [48] \/ ((aO f.1).1 = [48] /\ (aO f.1).2 = true) then 4
 else if 300 < (aO f.1).1.length \/ 300 < f.2.length then 3
 else if Nat.gcd (ax (aO f.1).1) (ax f.2) ≠ 1 then 4 else 0
def pU (m : Bool) (s : Str) : Str := if m = true then 45 :: s else s
def gI (x : Num) : Nat := x.n / Nat.gcd x.n x.d
def iq (x : Num) : Nat := x.d / Nat.gcd x.n x.d
def lg (x : Num) : Prop := 300 < (Lib.decDigits (gI x)).length \/ 300 < (Lib.decDigits (iq x)).length
instance (x : Num) : Decidable (lg x) := by unfold lg; infer_instance
def ak (x : Num) : Fr := if x.n = 0 then ([48], [49]) else if lg x then ([], []) else (pU x.m (Lib.decDigits (gI x)), Lib.decDigits (iq x))
def ay (x : Num) : Int := if x.n = 0 then 0 else if lg x then 19 else 0
def fP (x y : Num) : Num :=
 if x.m = y.m then ⟨x.m, x.n * y.d + y.n * x.d, x.d * y.d⟩
 else if y.n * x.d <= x.n * y.d then ⟨x.m, x.n * y.d - y.n * x.d, x.d * y.d⟩
 else ⟨y.m, y.n * x.d - x.n * y.d, x.d * y.d⟩
def OX (x : Num) : Num := ⟨!x.m, x.n, x.d⟩
def mulN (x y : Num) : Num := ⟨x.m != y.m, x.n * y.n, x.d * y.d⟩
def Xo (x : Num) : Num := ⟨x.m, x.d, x.n⟩
theorem jb {s : Str} (h : dw s = true) : s ≠ [] /\ s.all aY = true := by
 unfold dw at h
 simp only [Bool.and_eq_true, Bool.not_eq_true', List.isEmpty_eq_false_iff] at h
 exact ⟨h.1, h.2.2⟩
theorem wY {s : Str} (h : dw s = true) (h0 : s ≠ [48]) : 0 < ax s := by
 obtain ⟨h1, h2⟩ := jb h
 cases s with
 | nil => exact absurd rfl h1
 | cons c r =>
   simp only [List.all_cons, Bool.and_eq_true] at h2
   have hc := jR.1 h2.1
   have hc0 : c ≠ 48 := by
    rintro rfl
    unfold dw at h
    cases r with
    | nil => exact h0 rfl
    | cons d r => simp at h
   have hn : c.toNat ≠ 48 := fun e => hc0 (UInt8.toNat_inj.1 e)
   unfold ax
   rw [jK, Gx]
   have : 1 <= 10 ^ r.length := Nat.pow_pos (by omega)
   have : 1 * 10 ^ r.length <= (0 * 10 + (c.toNat - 48)) * 10 ^ r.length := Nat.mul_le_mul_right _ (by omega)
   omega
theorem Ak {f : Fr} (h : bQ f = 0) : dw (aO f.1).1 = true /\ dw f.2 = true /\ f.2 ≠ [48] /\ (aO f.1).1.length <= 300 /\ f.2.length <= 300 /\ Nat.gcd (az f).n (az f).d = 1 /\ 0 < (az f).d := by
 unfold bQ at h
 split at h
 ·omega
 rename_i h1
 simp only [not_or, Bool.not_eq_false] at h1
 split at h
 ·omega
 rename_i h2
 split at h
 ·omega
 rename_i h3
 exact ⟨h1.1, h1.2.1, h1.2.2.1, by omega, by omega, Decidable.not_not.1 h3, wY h1.2.1 h1.2.2.1⟩
theorem uV {x : Nat} (h : 0 < x) : (Lib.decDigits x).length = nd 10 x := by
 have hp := fM (b := 10) (by omega) (x := x)
 suffices hs : ∀ k, k <= nd 10 x -> (rC (x / 10 ^ k)).length = nd 10 x - k by
  have := hs 0 (Nat.zero_le _)
  rw [Nat.pow_zero, Nat.div_one, tC h] at this
  omega
 intro k hk
 obtain ⟨j, hj⟩ : ∃ j, j = nd 10 x - k := ⟨_, rfl⟩
 induction j generalizing k with
 | zero =>
   have e : k = nd 10 x := by omega
   subst e
   rw [Nat.div_eq_of_lt (dP (by omega) x)]
   simp [rC]
 | succ j ih =>
   rw [DR (by omega : k < nd 10 x), List.length_append, ih (k + 1) (by omega) (by omega)]
   simp; omega
theorem NR {x : Num} (hn : 0 < x.n) (hd : 0 < x.d) : 0 < gI x /\ 0 < iq x := by
 have hg : 0 < Nat.gcd x.n x.d := Nat.gcd_pos_of_pos_left _ hn
 exact ⟨Nat.div_pos (Nat.le_of_dvd hn (Nat.gcd_dvd_left _ _)) hg, Nat.div_pos (Nat.le_of_dvd hd (Nat.gcd_dvd_right _ _)) hg⟩
end ae
end
section
namespace ae
def SqI (a x : Nat) : Prop := a < (x + 1) * (x + 1)
theorem QT (x : Nat) : 0 < x -> ∃ c r, Lib.decDigits x = c :: r /\ c.toNat ≠ 48 := by
 induction x using Nat.strongRecOn with
 | _ x ih =>
 intro hx
 by_cases h : x < 10
 ·refine ⟨_, _, Lib.decDigits_one h, ?_⟩
  simp; omega
 ·obtain ⟨c, r, h1, h2⟩ := ih (x / 10) (by omega) (by omega)
  exact ⟨c, r ++ [UInt8.ofNat (48 + x % 10)], by rw [tu h, h1]; rfl, h2⟩
theorem zk (x : Nat) : dw (Lib.decDigits x) = true := by
 have ha := jA x
 unfold dw
 rw [ha, Bool.and_true]
 rcases Nat.eq_zero_or_pos x with rfl | h
 ·rw [Lib.decDigits_one (by omega)]; rfl
 ·obtain ⟨c, r, h1, h2⟩ := QT x h
  rw [h1]
  have : c ≠ 48 := by rintro rfl; exact h2 rfl
  simp [this]
theorem QJ (x : Nat) : aO (Lib.decDigits x) = (Lib.decDigits x, false) := by
 have h := jA x
 generalize Lib.decDigits x = l at *
 unfold aO
 cases l with
 | nil => rfl
 | cons c r =>
   have hc : c ≠ 45 := by
    rintro rfl
    simp [aY] at h
   simp [hc]
theorem AZ {x : Nat} : Lib.decDigits x = [48] ↔ x = 0 := by
 constructor
 ·intro h
  have := oI x
  rw [h] at this
  exact this.symm
 ·rintro rfl
  rw [Lib.decDigits_one (by omega)]; rfl
theorem kG {n d : Nat} (hd : 0 < d) (hl1 : (Lib.decDigits n).length <= 300) (hl2 : (Lib.decDigits d).length <= 300) (hg : Nat.gcd n d = 1) :
  bQ (Lib.decDigits n, Lib.decDigits d) = 0 /\ az (Lib.decDigits n, Lib.decDigits d) = ⟨false, n, d⟩ := by
 unfold bQ az
 dsimp only
 rw [QJ]
 dsimp only
 rw [zk, zk, oI, oI]
 refine ⟨?_, rfl⟩
 rw [if_neg, if_neg (by omega), if_neg (by omega)]
 rintro (h | h | h | h)
 ·cases h
 ·cases h
 ·have := AZ.1 h; omega
 ·cases h.2
theorem Dn {x : Num} (hm : x.m = false) (hd : 0 < x.d) (h1 : nd 10 x.n <= 300) (h2 : nd 10 x.d <= 300) :
  ay x = 0 /\ ∃ n d, ak x = (Lib.decDigits n, Lib.decDigits d) /\ bQ (ak x) = 0 /\ az (ak x) = ⟨false, n, d⟩ /\ 0 < d /\ n * x.d = x.n * d /\ nd 10 n <= 300 /\ nd 10 d <= 300 := by
 have dl : ∀ y, nd 10 y <= 300 -> (Lib.decDigits y).length <= 300 := fun y hy => by
  rcases Nat.eq_zero_or_pos y with rfl | h
  ·rw [Lib.decDigits_one (by omega)]; simp
  ·rw [uV h]; exact hy
 have e0 : Lib.decDigits 0 = [48] := AZ.2 rfl
 have e1 : Lib.decDigits 1 = [49] := by rw [Lib.decDigits_one (by omega)]; rfl
 by_cases hn : x.n = 0
 ·refine ⟨by rw [ay, if_pos hn], 0, 1, ?_⟩
  have hF : ak x = (Lib.decDigits 0, Lib.decDigits 1) := by rw [ak, if_pos hn, e0, e1]
  rw [hF]
  obtain ⟨r1, r2⟩ := kG (n := 0) (d := 1) (by omega) (by rw [e0]; simp) (by rw [e1]; simp) rfl
  have n1 : nd 10 1 <= 300 := Nat.le_trans (dX (n := 1) (by omega) (by omega)) (by omega)
  exact ⟨rfl, r1, r2, by omega, by rw [hn]; simp, by rw [aT]; omega, n1⟩
 ·have hp := Nat.pos_of_ne_zero hn
  have hg : 0 < Nat.gcd x.n x.d := Nat.gcd_pos_of_pos_left _ hp
  have b1 := dD (b := 10) (by omega) (Nat.div_le_self x.n (Nat.gcd x.n x.d))
  have b2 := dD (b := 10) (by omega) (Nat.div_le_self x.d (Nat.gcd x.n x.d))
  have l1 := dl _ (Nat.le_trans b1 h1)
  have l2 := dl _ (Nat.le_trans b2 h2)
  have ho : ¬ lg x := by unfold lg gI iq; omega
  have hF : ak x = (Lib.decDigits (x.n / Nat.gcd x.n x.d), Lib.decDigits (x.d / Nat.gcd x.n x.d)) := by
   rw [ak, if_neg hn, if_neg ho, hm]; rfl
  have hdp : 0 < x.d / Nat.gcd x.n x.d := Nat.div_pos (Nat.le_of_dvd hd (Nat.gcd_dvd_right _ _)) hg
  have hgg : Nat.gcd (x.n / Nat.gcd x.n x.d) (x.d / Nat.gcd x.n x.d) = 1 := Nat.gcd_div_gcd_div_gcd_of_pos_left hp
  obtain ⟨r1, r2⟩ := kG hdp l1 l2 hgg
  rw [hF]
  refine ⟨by rw [ay, if_neg hn, if_neg ho], _, _, rfl, r1, r2, hdp, ?_, by omega, by omega⟩
  have q1 := Nat.div_mul_cancel (Nat.gcd_dvd_left x.n x.d)
  have q2 := Nat.div_mul_cancel (Nat.gcd_dvd_right x.n x.d)
  generalize Nat.gcd x.n x.d = g at *
  generalize x.n / g = u at *
  generalize x.d / g = v at *
  rw [<- q1, <- q2, Nat.mul_assoc, Nat.mul_comm g v]
end ae
end
section
namespace ae
structure GU (x y : Num) : Prop where
 dx : 0 < x.d
 dy : 0 < y.d
 cross : x.n * y.d = y.n * x.d
 sign : x.n ≠ 0 -> x.m = y.m
theorem GU.refl {x : Num} (h : 0 < x.d) : GU x x := ⟨h, h, rfl, fun _ => rfl⟩
theorem GU.zero {x y : Num} (h : GU x y) : x.n = 0 ↔ y.n = 0 := by
 have h1 := h.cross; have h2 := h.dx; have h3 := h.dy
 constructor
 ·intro e
  rw [e, Nat.zero_mul] at h1
  exact (Nat.mul_eq_zero.1 h1.symm).resolve_right (by omega)
 ·intro e
  rw [e, Nat.zero_mul] at h1
  exact (Nat.mul_eq_zero.1 h1).resolve_right (by omega)
theorem GU.symm {x y : Num} (h : GU x y) : GU y x := ⟨h.dy, h.dx, h.cross.symm, fun e => (h.sign fun e' => e (h.zero.1 e')).symm⟩
theorem GU.trans {x y z : Num} (h : GU x y) (k : GU y z) : GU x z := ⟨h.dx, k.dy, by
 have h1 := h.cross; have k1 := k.cross
 have e : x.n * z.d * y.d = z.n * x.d * y.d := by
  rw [Nat.mul_right_comm, h1, Nat.mul_right_comm, k1, Nat.mul_right_comm z.n, Nat.mul_right_comm]
 exact Nat.eq_of_mul_eq_mul_right h.dy e, fun e => (h.sign e).trans (k.sign fun e' => e (h.zero.2 e'))⟩
theorem yu {x : Num} (hd : 0 < x.d) : Nat.gcd (gI x) (iq x) = 1 /\ 0 < iq x /\ x.n * iq x = gI x * x.d := by
 have hg : 0 < Nat.gcd x.n x.d := Nat.gcd_pos_of_pos_right _ hd
 refine ⟨Nat.gcd_div_gcd_div_gcd_of_pos_right hd, Nat.div_pos (Nat.le_of_dvd hd (Nat.gcd_dvd_right _ _)) hg, ?_⟩
 unfold gI iq
 have q1 := Nat.div_mul_cancel (Nat.gcd_dvd_left x.n x.d)
 have q2 := Nat.div_mul_cancel (Nat.gcd_dvd_right x.n x.d)
 generalize Nat.gcd x.n x.d = g at *
 generalize x.n / g = u at *
 generalize x.d / g = v at *
 rw [<- q1, <- q2, Nat.mul_assoc, Nat.mul_comm g v]
theorem SX {x y : Num} (h : GU x y) : gI x = gI y /\ iq x = iq y := by
 obtain ⟨g1, p1, c1⟩ := yu h.dx
 obtain ⟨g2, p2, c2⟩ := yu h.dy
 have hc : gI x * iq y = gI y * iq x := by
  have e : gI x * iq y * (x.d * y.d) = gI y * iq x * (x.d * y.d) := by
   have a1 : gI x * iq y * (x.d * y.d) = (gI x * x.d) * (iq y * y.d) := Nat.mul_mul_mul_comm _ _ _ _
   have a2 : gI y * iq x * (x.d * y.d) = (gI y * y.d) * (iq x * x.d) := by
    rw [Nat.mul_comm x.d y.d, Nat.mul_mul_mul_comm]
   rw [a1, a2, <- c1, <- c2]
   have h1 := h.cross
   have b1 : x.n * iq x * (iq y * y.d) = (x.n * y.d) * (iq x * iq y) := by
    rw [Nat.mul_comm (iq y) y.d, Nat.mul_mul_mul_comm]
   have b2 : y.n * iq y * (iq x * x.d) = (y.n * x.d) * (iq x * iq y) := by
    rw [Nat.mul_comm (iq x) x.d, Nat.mul_mul_mul_comm, Nat.mul_comm (iq y)]
   rw [b1, b2, h1]
  exact Nat.eq_of_mul_eq_mul_right (Nat.mul_pos h.dx h.dy) e
 have d1 : gI x ∣ gI y := (show Nat.Coprime (gI x) (iq x) from g1).dvd_of_dvd_mul_right ⟨iq y, hc.symm⟩
 have d2 : gI y ∣ gI x := (show Nat.Coprime (gI y) (iq y) from g2).dvd_of_dvd_mul_right ⟨iq x, hc⟩
 have e1 := Nat.dvd_antisymm d1 d2
 refine ⟨e1, ?_⟩
 rcases Nat.eq_zero_or_pos (gI x) with h0 | h0
 ·rw [h0, Nat.gcd_zero_left] at g1
  rw [<- e1, h0, Nat.gcd_zero_left] at g2
  rw [g1, g2]
 ·rw [<- e1] at hc
  exact (Nat.eq_of_mul_eq_mul_left h0 hc).symm
section
theorem qN {x y : Num} (h : GU x y) : ak x = ak y /\ ay x = ay y := by
 obtain ⟨e1, e2⟩ := SX h
 have e3 : lg x ↔ lg y := by unfold lg; rw [e1, e2]
 unfold ak ay
 by_cases h0 : x.n = 0
 ·rw [if_pos h0, if_pos (h.zero.1 h0), if_pos h0, if_pos (h.zero.1 h0)]
  exact ⟨rfl, rfl⟩
 ·have h1 : ¬ y.n = 0 := fun e => h0 (h.zero.2 e)
  rw [if_neg h0, if_neg h1, if_neg h0, if_neg h1, h.sign h0]
  by_cases ho : lg x
  ·rw [if_pos ho, if_pos (e3.1 ho), if_pos ho, if_pos (e3.1 ho)]
   exact ⟨rfl, rfl⟩
  ·rw [if_neg ho, if_neg (fun h => ho (e3.2 h)), if_neg ho, if_neg (fun h => ho (e3.2 h)), e1, e2]
   exact ⟨rfl, rfl⟩
theorem qM {x : Num} (hd : 0 < x.d) (hE : ay x = 0) : bQ (ak x) = 0 /\ GU (az (ak x)) x /\ ((az (ak x)).m = true -> (az (ak x)).n ≠ 0) := by
 by_cases hn : x.n = 0
 ·have hF : ak x = ([48], [49]) := by unfold ak; rw [if_pos hn]
  rw [hF]
  refine ⟨by decide, ⟨by decide, hd, ?_, fun h => absurd (by decide) h⟩, fun h => by revert h; decide⟩
  rw [hn]
  show ax [48] * x.d = 0 * ax [49]
  have : ax [48] = 0 := by decide
  rw [this, Nat.zero_mul, Nat.zero_mul]
 ·have hp := Nat.pos_of_ne_zero hn
  have ho : ¬ lg x := fun h => by unfold ay at hE; rw [if_neg hn, if_pos h] at hE; cases hE
  have hF : ak x = (pU x.m (Lib.decDigits (gI x)), Lib.decDigits (iq x)) := by unfold ak; rw [if_neg hn, if_neg ho]
  obtain ⟨r1, r2⟩ := NR hp hd
  obtain ⟨g1, -, c1⟩ := yu hd
  rw [hF]
  have hcut : aO (pU x.m (Lib.decDigits (gI x))) = (Lib.decDigits (gI x), x.m) := by
   have ha := jA (gI x)
   cases hm : x.m with
   | true => rfl
   | false =>
     show aO (Lib.decDigits (gI x)) = _
     unfold aO
     rw [if_neg]
     intro h
     cases hl : Lib.decDigits (gI x) with
     | nil => rw [hl] at h; cases h
     | cons c r =>
       rw [hl] at h ha
       have : c = 45 := by simpa using h
       subst this
       simp [aY] at ha
  have hN : az (pU x.m (Lib.decDigits (gI x)), Lib.decDigits (iq x)) = ⟨x.m, gI x, iq x⟩ := by
   unfold az
   rw [hcut, oI, oI]
  have hl : (Lib.decDigits (gI x)).length <= 300 /\ (Lib.decDigits (iq x)).length <= 300 := by unfold lg at ho; omega
  obtain ⟨k1, k2⟩ := kG r2 hl.1 hl.2 g1
  refine ⟨?_, ⟨?_, hd, ?_, fun _ => ?_⟩, fun _ => ?_⟩
  ·unfold bQ at k1 ⊢
   have YN : aO (Lib.decDigits (gI x)) = (Lib.decDigits (gI x), false) := by
    have := congrArg Num.m k2
    have hn0 := jA (gI x)
    unfold aO
    rw [if_neg]
    intro h
    cases hl : Lib.decDigits (gI x) with
    | nil => rw [hl] at h; cases h
    | cons c r =>
      rw [hl] at h hn0
      have : c = 45 := by simpa using h
      subst this
      simp [aY] at hn0
   rw [YN] at k1
   rw [hcut]
   dsimp only at k1 ⊢
   have hz : ¬ Lib.decDigits (gI x) = [48] := fun h => by have := AZ.1 h; omega
   simp only [hz, false_and, or_false] at k1 ⊢
   exact k1
  ·rw [hN]; exact r2
  ·rw [hN]; exact c1.symm
  ·rw [hN]
  ·rw [hN]; exact Nat.ne_of_gt r1
end
end ae
end
section
namespace ae
def aW (s : Str) : Str := s.takeWhile aY
def bf (s : Str) : Str := s.dropWhile aY
theorem l9 (s : Str) : aW s ++ bf s = s := List.takeWhile_append_dropWhile
theorem JS {a b s : Str} (h : a ++ b = s) : s.take a.length = a := by subst h; rw [List.take_left]
theorem QZ {a b s : Str} (h : a ++ b = s) : s.drop a.length = b := by subst h; rw [List.drop_left]
theorem eH (s : Str) : (aW s).length + (bf s).length = s.length := by
 have := congrArg List.length (l9 s)
 rwa [List.length_append] at this
theorem gu (s : Str) : (aW s).all aY = true := by
 unfold aW
 induction s with
 | nil => rfl
 | cons c r ih =>
   by_cases h : aY c = true
   ·rw [List.takeWhile_cons_of_pos h, List.all_cons, h, ih]; rfl
   ·rw [List.takeWhile_cons_of_neg h]; rfl
theorem Jw (s : Str) : s.take (s.length - (bf s).length) = aW s := by
 have h1 := l9 s
 have h2 := eH s
 have : s.length - (bf s).length = (aW s).length := by omega
 rw [this]
 exact JS h1
theorem Jv (s : Str) : s.drop (aW s).length = bf s := by
 exact QZ (l9 s)
theorem Ey (s : Str) : s.take (aW s).length = aW s := by
 exact JS (l9 s)
theorem jy {s : Str} (h : s.all aY = true) : aW s = s /\ bf s = [] := by
 unfold aW bf
 induction s with
 | nil => exact ⟨rfl, rfl⟩
 | cons c r ih =>
   simp only [List.all_cons, Bool.and_eq_true] at h
   obtain ⟨h1, h2⟩ := ih h.2
   rw [List.takeWhile_cons_of_pos h.1, List.dropWhile_cons_of_pos h.1, h1, h2]
   exact ⟨rfl, rfl⟩
theorem Am {s : Str} (h : bf s = []) : s.all aY = true := by
 have h1 := l9 s
 rw [h, List.append_nil] at h1
 rw [<- h1]; exact gu s
def yC (s : Str) : Bool := s.head? == some 45
def nU (s : Str) : Str := if s.head? = some 45 \/ s.head? = some 43 then s.tail else s
def jX (d : Str) : Bool := !d.isEmpty && (d.all aY && decide (d.length <= 3))
def lK (s : Str) : Int := match s with
 | [] => 0
 | _ :: t => if yC t = true then -(ax (nU t) : Int) else (ax (nU t) : Int)
def lU (s : Str) : Bool := match s with
 | [] => true
 | c :: t => (c == 101 || c == 69) && jX (nU t)
theorem jZ {t : Str} (h : jX t = true) : t ≠ [] /\ aW t = t /\ bf t = [] /\ t.length <= 3 /\ t.all aY = true := by
 simp only [jX, Bool.and_eq_true, Bool.not_eq_true', List.isEmpty_eq_false_iff, decide_eq_true_eq] at h
 exact ⟨h.1, (jy h.2.1).1, (jy h.2.1).2, h.2.2, h.2.1⟩
theorem xM {t : Str} (h : jX t = false) : aW t = [] \/ 3 < (aW t).length \/ bf t ≠ [] := by
 by_cases hr : bf t = []
 ·have ha := Am hr
  have hd := (jy ha).1
  rw [hd]
  by_cases h0 : t = []
  ·exact .inl h0
  ·refine .inr (.inl ?_)
   have : t.isEmpty = false := by simpa using h0
   rw [jX, this, ha] at h
   simpa using h
 ·exact .inr (.inr hr)
theorem JY {t : Str} (h : jX t = true) : ax t < 1000 := by
 obtain ⟨-, -, -, hl, ha⟩ := jZ h
 have := jW t ha
 exact zl this (Nat.pow_le_pow_right (by omega) hl)
def x8 (s : Str) : Str := if s.head? = some 46 then aW s.tail else []
def BQ (s : Str) : Str := if s.head? = some 46 then bf s.tail else s
def nz (s : Str) : Bool := s.head? == some 46 && (aW s.tail).isEmpty
def gY (s : Str) : Str := aW (aO s).1
def iE (s : Str) : Str := x8 (bf (aO s).1)
def fD (s : Str) : Str := BQ (bf (aO s).1)
def jM (s : Str) : Int :=
 if 1000 < s.length then 3
 else if nz (bf (aO s).1) = true \/ gY s = [] \/ lU (fD s) = false then 10 else 0
def aG (x : Num) (k : Int) : Num := if k < 0 then ⟨x.m, x.n, x.d * 10 ^ k.natAbs⟩ else ⟨x.m, x.n * 10 ^ k.natAbs, x.d⟩
def fA (s : Str) : Num := aG ⟨(aO s).2, ax (gY s ++ iE s), 1⟩ (lK (fD s) - ((iE s).length : Int))
theorem V8 (k : Nat) : ax (49 :: List.replicate k 48) = 10 ^ k /\ (49 :: List.replicate k 48 : Str).all aY = true := by
 constructor
 ·induction k with
  | zero => rfl
  | succ k ih =>
    rw [List.replicate_succ', <- List.cons_append, wZ, ih, Nat.pow_succ]
    simp
 ·simp [aY]
end ae
end
end Go.Proofs.YtdkhkfdenlabaaaGreatDoor
