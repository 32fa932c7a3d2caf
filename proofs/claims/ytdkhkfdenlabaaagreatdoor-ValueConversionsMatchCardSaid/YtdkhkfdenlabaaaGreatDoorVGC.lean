/- A walk that reckons: more operations: qu -/
import Derived.Test.YtdkhkfdenlabaaaGreatDoorVGB
import Derived.Lib.FrozenHead
import Derived.Scope
import Derived.Laws.OwnMore
import Derived.Test.YtdkhkfdenlabaaaGreatDoorVGA
set_option linter.unusedSimpArgs false
set_option linter.unusedVariables false
set_option maxRecDepth 100000
set_option maxHeartbeats 64000000
namespace Go.Proofs.YtdkhkfdenlabaaaGreatDoor
section
open Go.RowKit
namespace Sym
theorem jv {C : Ctx} {G : eU} {x y : Operand} {t u : TypeId} {k : IntKind} {a b : Int} (ha : 0 <= a) (hb : 0 < b) : dH C G (.binOp .rem t x y u) [.int k a, .int k b] (.int k (a % b)) := by
 unfold dH
 intro ρ β w dst ty pos after g _ _ h
 have h' : ρ x = .int k a /\ ρ y = .int k b := by simpa [jg, SV.aF, SV.den] using h
 have e0 : ¬ b = 0 := by omega
 simp [execOp, eqGuard, binOp, Op.intDiv, h'.1, h'.2, e0, SV.den, Int.tmod_eq_emod_of_nonneg ha]
theorem qh {C : Ctx} {G : eU} {x y : Operand} {t u : TypeId} {k : IntKind} {a b : Int} (ha : 0 <= a) (hb : 0 < b) (hk : uu k a) : dH C G (.binOp .quo t x y u) [.int k a, .int k b] (.int k (a / b)) := by
 unfold dH
 intro ρ β w dst ty pos after g _ _ h
 have h' : ρ x = .int k a /\ ρ y = .int k b := by simpa [jg, SV.aF, SV.den] using h
 have e0 : ¬ b = 0 := by omega
 have h1 : 0 <= a / b := Int.ediv_nonneg ha (by omega)
 have h2 : a / b <= a := Int.ediv_le_self _ ha
 have hw : k.wrap (a / b) = a / b := ni (by cases k <;> simp only [uu] at hk ⊢ <;> omega)
 simp [execOp, eqGuard, binOp, Op.intDiv, h'.1, h'.2, e0, SV.den, Int.tdiv_eq_ediv_of_nonneg ha, hw]
theorem nR {C : Ctx} {G : eU} {x : Operand} {t u e : TypeId} {g cap n : Nat} {xs : List Value} (i : Nat) (l : List UInt8) (hs : C.P.underlying t = some (.slice e)) (he : C.P.underlying e = some (.int .u8)) (hd : C.P.underlying u = some .string)
  (ri : G i = some (EU e g n cap xs)) (hx : xs = dJ l) : dH C G (.convert t u x) [.any (.slice (some ⟨g, 0, none⟩) n cap)] (.str l) := by
 unfold dH
 intro ρ β w dst ty pos after gd _ hG h
 have e1 : ρ x = .slice (some ⟨g, 0, none⟩) n cap := by simpa [jg, SV.aF, SV.den] using h
 have ho := (hG i _ ri).2
 have hc := EU.cell ho
 have hn : n = l.length := by obtain ⟨-, cur, -, -, -, -, -, h6⟩ := ho; rw [<- h6, hx]; simp [dJ]
 subst hn
 have hr := run_convert_bytes_back (P := C.P) w t u e ⟨g, 0, none⟩ cap l hs he hd (fun j hj => hc j _ (by rw [hx]; simp [dJ, hj]))
 simp [execOp, e1, hr, SV.den, ah]
theorem Sat.learn {base : Nat} {w0 : Base} {β : Nat -> Nat} {a : Act} {w : World} {fr : List (Nat × SV)} {rows : List (Nat × Bool × aV)} {nx n b : Nat} {o : Bool} {Φ : Nat -> Option Obj -> Prop} (hs : Sat base w0 ⟨fr, rows, nx, n⟩ β a w) (hb : b < w.heap.size) (hΦ : Φ b w.heap[b]?)
  (ho : o = true -> base <= b /\ ∀ i o' r, get rows i = some (o', r) -> β i ≠ b) (hn : ∀ i r, get rows i = some (true, r) -> β i ≠ b) :
  Sat base w0 ⟨fr, (nx, o, .aK Φ) :: rows, nx + 1, n⟩ (fun i => if i = nx then b else β i) a w := by
 obtain ⟨h1, h2, h3, h4⟩ := hs
 have hbe : ∀ i, i < nx -> (fun i => if i = nx then b else β i) i = β i := fun i hi => by dsimp only; rw [if_neg (by omega)]
 refine ⟨h1, h2, fun s v hv => ?_, ?_⟩
 ·obtain ⟨k1, k2⟩ := h3 s v hv
  exact ⟨by rw [k1, SV.qo hbe v k2], SV.kT (Nat.le_succ _) v k2⟩
 ·refine ⟨h4.below, h4.aU, fun i ow r' hi => ?_, fun i hi => ?_, fun i j r' oj rj hi hj hji => ?_, Nat.le_trans h4.n0 (Nat.le_succ _), fun i hi => ?_⟩
  ·rw [aQ] at hi
   by_cases e : nx = i
   ·rw [if_pos e] at hi
    cases hi
    subst e
    dsimp only
    rw [if_pos rfl]
    exact ⟨⟨hb, hΦ⟩, trivial, by omega, fun h => (ho h).1⟩
   ·rw [if_neg e] at hi
    obtain ⟨k1, k2, k3, k4⟩ := h4.row i ow r' hi
    have k3 : i < nx := k3
    dsimp only
    rw [if_neg (by omega)]
    exact ⟨oW hbe k2 k1, aV.kT (Nat.le_succ _) r' k2, by omega, k4⟩
  ·have hi : i < nx + 1 := hi
   by_cases e : i = nx
   ·rw [if_pos e]; exact hb
   ·rw [if_neg e]; exact h4.lt i (show i < nx by omega)
  ·rw [aQ] at hi hj
   by_cases e : nx = i
   ·rw [if_pos e] at hi
    cases hi
    rw [if_neg (by omega)] at hj
    rw [if_pos e.symm, if_neg (by omega)]
    exact (ho rfl).2 j oj rj hj
   ·rw [if_neg e] at hi
    rw [if_neg (by omega : ¬ i = nx)]
    by_cases ej : nx = j
    ·rw [if_pos ej.symm]; exact fun e0 => hn i r' hi e0.symm
    ·rw [if_neg ej] at hj; rw [if_neg (by omega)]; exact h4.inj i j r' oj rj hi hj hji
  ·have h5 : w0.n0 <= nx := h4.n0
   have e : ¬ i = nx := by omega
   rw [if_neg e]; exact h4.ext i hi
def aS (a : Option Addr) (xs : List Value) (w : World) : Prop := ∀ i v, xs[i]? = some v -> ∃ ad, a = some ad /\ ad.block < w.heap.size /\ w.cell? (ad.add i) = some v
def G7 (a : Option Addr) (xs : List Value) (b : Nat) (o : Option Obj) : Prop := ∀ w : World, w.heap[b]? = o -> ∀ i v, xs[i]? = some v -> ∃ ad, a = some ad /\ ad.block = b /\ w.cell? (ad.add i) = some v
def Yd (a : Option Addr) (w : World) : Prop := ∀ ad, a = some ad -> w.heap.size <= ad.block
theorem add_block (a : Addr) (k : Nat) : (a.add k).block = a.block := by unfold Addr.add; split <;> rfl
theorem aS.below {a : Option Addr} {xs : List Value} {w w' : World} (h : aS a xs w) (hb : Below w.heap.size w w') : aS a xs w' := fun i v hi => by
 obtain ⟨ad, h1, h2, h3⟩ := h i v hi
 exact ⟨ad, h1, zl h2 hb.size, by rw [World.cell?_of_block (w := w) (by rw [add_block]; exact hb.block _ h2)]; exact h3⟩
theorem aS.some {a : Option Addr} {xs : List Value} {w : World} (h : aS a xs w) (hx : xs ≠ []) : ∃ ad, a = some ad := by
 cases xs with
 | nil => exact absurd rfl hx
 | cons x r => obtain ⟨ad, e, _⟩ := h 0 x rfl; exact ⟨ad, e⟩
theorem G7.at {a : Option Addr} {xs : List Value} {b : Nat} {w : World} (h : G7 a xs b w.heap[b]?) (hb : b < w.heap.size) : aS a xs w := fun i v hi => by
 obtain ⟨ad, h1, h2, h3⟩ := h w rfl i v hi
 exact ⟨ad, h1, by omega, h3⟩
theorem X4 {C : Ctx} (hE : dL C.P C.E) (hres : C.fn.results = C.res.toArray) {all l : List Oper} {k : List It} {o : Oper} {st : St} (fuel : Nat) (h : sZ C o st (fun st' => wpS C fuel (.ops all l :: k) st')) : EX C all l k o st := by
 unfold sZ at h
 unfold EX
 exact fun β a w hs => h β a w hs _ _ (fun st' β' a' w' hK hs' => bU hE hres fuel (.ops all l :: k) st' β' a' w' hK hs')
theorem UA {C : Ctx} (hE : dL C.P C.E) (hres : C.fn.results = C.res.toArray) {all l : List Oper} {k : List It} {dst : Option Nat} {f : FuncId} {args : List SV} {st : St} (fuel : Nat) (h : fE C dst f args st (fun st' => wpS C fuel (.ops all l :: k) st')) : qU C all l k dst f args st := by
 unfold fE at h
 unfold qU
 refine ⟨h.1, fun β a w hs => (h.2 β a w hs).mono ?_⟩
 rintro e w' ⟨v, st', β', rfl, hK, hs'⟩
 exact bU hE hres fuel (.ops all l :: k) st' β' _ w' hK hs'
theorem O4 {C : Ctx} {d : Nat} {ty : TypeId} {pos : String} {after : Array Edge} {gd : Option (Nat × Bool)} {fr : List (Nat × SV)} {rows : List (Nat × Bool × aV)} {nx n len : Nat} {K : St -> Prop}
  {ps : List (Nat × Operand)} {t e : TypeId} (xs : List Value) (hd : Nat.blt d n = true) (hl : xs.length = len) (hm : len <= maxLen)
  (hr : ∀ β a w, Sat C.base C.w0 ⟨fr, rows, nx, n⟩ β a w -> (Instr.buildSlice t len (ps.toArray.map fun (i, x) => (i, a.eval x))).run C.P w = .ok (.slice (some ⟨w.heap.size, 0, none⟩) len len) (w.alloc (.cells xs.toArray e)))
  (h : ∀ g, K ⟨(d, .any (.slice (some ⟨g, 0, none⟩) len len)) :: fr, (nx, true, .aK (EU e g len len xs)) :: rows, nx + 1, n⟩) :
  sZ C ⟨some d, .buildSlice t len ⟨ps⟩, ty, pos, after, gd⟩ ⟨fr, rows, nx, n⟩ K := by
 unfold sZ
 intro β a w hs next Q hn
 have hrun := hr β a w hs
 unfold Oper.wp
 have : (execOp a.eval ⟨some d, .buildSlice t len ⟨ps⟩, ty, pos, after, gd⟩).run C.P w = .ok (.value (.slice (some ⟨w.heap.size, 0, none⟩) len len)) (w.alloc (.cells xs.toArray e)) := by
  simp only [execOp, Sem.run_bind]
  rw [hrun]; simp
 rw [this]
 have hs2 := hs.alloc (r := .aK (EU e w.heap.size len len xs)) trivial (.cells xs.toArray e) (fun β' hb => ⟨by simp, rfl, xs.toArray, by have := Row.new w e xs.toArray; unfold Row at this; exact this, Nat.le_refl _, hm, by simp [hl], by simp [List.take_of_length_le, hl], hl⟩) rfl
 have hs3 := hs2.put (d := d) (by simpa [Nat.blt_eq] using hd) (v := .any (.slice (some ⟨w.heap.size, 0, none⟩) len len)) rfl
 exact hn _ _ _ _ (h w.heap.size) hs3
theorem wL {C : Ctx} {d : Nat} {ty : TypeId} {pos : String} {after : Array Edge} {gd : Option (Nat × Bool)} {fr : List (Nat × SV)} {rows : List (Nat × Bool × aV)} {nx n : Nat} {K : St -> Prop}
  {x : Operand} {t e : TypeId} {kd : IntKind} {p : Int} {z0 : Value} (hd : Nat.blt d n = true) (hx : ev fr x = some (.int kd p))
  (ht : C.P.underlying t = some (.slice e)) (hs : ∀ w, (sizeOf e).run C.P w = .ok 1 w) (hz : ∀ w, (zeroValue e).run C.P w = .ok z0 w) (hz1 : z0.cells = #[z0])
  (h : ∀ g, K ⟨(d, .any (.slice (some ⟨g, 0, none⟩) 1 1)) :: fr, (nx, true, .aK (EU e g 1 1 [.int kd p])) :: rows, nx + 1, n⟩) :
  sZ C ⟨some d, .buildSlice t 1 ⟨[(0, x)]⟩, ty, pos, after, gd⟩ ⟨fr, rows, nx, n⟩ K :=
 O4 [.int kd p] hd rfl (by unfold maxLen; omega) (fun β a w zU => by
  have e1 := (bC zU hx).1
  have q0 : (underlying t).run C.P w = .ok (.slice e) w := by simp [underlying, ht]
  simp [Instr.buildSlice, q0, hs, hz, hz1, e1, SV.den, Yv (.int kd p) rfl, newRow, World.alloc_eq]) h
end Sym
end
section
open Go.RowKit
namespace Sym
def dN (e : TypeId) (sz g n cap : Nat) (xs : List Value) (b : Nat) (o : Option Obj) : Prop := b = g /\ ∃ cur, o = some (.cells cur e (0, 0)) /\ n <= cap /\ cap <= maxLen /\ cur.size = cap * sz /\ cur.toList.take (n * sz) = xs /\ xs.length = n * sz
theorem dN.owns {e : TypeId} {sz g n cap : Nat} {xs : List Value} {b base : Nat} {w : World} (h : dN e sz g n cap xs b w.heap[b]?) (hb : base <= b) : w.ownsRow base e sz (.slice (some ⟨g, 0, none⟩) n cap) n xs := by
 obtain ⟨rfl, cur, h1, h2, h3, h4, h5, h6⟩ := h
 exact ⟨h6, .inr ⟨b, cap, cur, rfl, hb, h1, h2, h3, h4, h5⟩⟩
theorem dN.cell {e : TypeId} {sz g n cap : Nat} {xs : List Value} {b : Nat} {w : World} (h : dN e sz g n cap xs b w.heap[b]?) : ∀ j u, xs[j]? = some u -> w.cell? ((⟨g, 0, none⟩ : Addr).add j) = some u := by
 obtain ⟨rfl, cur, h1, h2, h3, h4, h5, h6⟩ := h
 intro j u hj
 rw [uK]
 have hjn : j < n * sz := by have := (List.getElem?_eq_some_iff.1 hj).1; omega
 have : cur[j]? = some u := by
  rw [<- h5, List.getElem?_take, if_pos hjn] at hj
  simpa using hj
 simp [World.cell?, h1, this]
theorem dN.V5 {e : TypeId} {sz g n cap : Nat} {xs : List Value} {b : Nat} {w : World} (h : dN e sz g n cap xs b w.heap[b]?) (hb : b < w.heap.size) : aS (some ⟨g, 0, none⟩) xs w := fun j u hj => ⟨_, rfl, by rw [<- h.1]; exact hb, h.cell j u hj⟩
theorem fill_whole {sz : Nat} {u : Value} {xs : List Value} (hu : u.cells = xs.toArray) (hl : xs.length = sz) (A : Array Value) (hA : A.size = sz) : Instr.fill (fun i => some (i * sz, sz)) A [(0, u)] = some xs.toArray := by
 simp only [Instr.fill, hu, Nat.zero_mul]
 rw [if_neg (by simp; omega)]
 congr 1
 have := foldl_set 0 xs 0 A (by omega)
 rw [<- Array.foldl_toList, Array.toList_zipIdx]
 simp only [Nat.add_zero, Nat.zero_add] at this ⊢
 refine this.trans ?_
 rw [List.drop_eq_nil_of_le (by simp; omega)]
 simp
theorem aI {C : Ctx} {d : Nat} {ty : TypeId} {pos : String} {after : Array Edge} {gd : Option (Nat × Bool)} {fr : List (Nat × SV)} {rows : List (Nat × Bool × aV)} {nx n : Nat} {K : St -> Prop}
  {x : Operand} {t e : TypeId} {sz : Nat} {v : SV} {vs : List SV} {xs : List Value} {z0 : Value} (hd : Nat.blt d n = true) (hx : ev fr x = some v) (hc : gV v = some vs) (hxs : ∀ β, SV.aF β vs = xs) (hl : xs.length = sz) (h0 : 0 < sz) (hk : sz <= 1000)
  (ht : C.P.underlying t = some (.slice e)) (hs : ∀ w, (sizeOf e).run C.P w = .ok sz w) (hz : ∀ w, (zeroValue e).run C.P w = .ok z0 w)
  (h : ∀ g, K ⟨(d, .any (.slice (some ⟨g, 0, none⟩) 1 1)) :: fr, (nx, true, .aK (dN e sz g 1 1 xs)) :: rows, nx + 1, n⟩) :
  sZ C ⟨some d, .buildSlice t 1 ⟨[(0, x)]⟩, ty, pos, after, gd⟩ ⟨fr, rows, nx, n⟩ K := by
 unfold sZ
 intro β a w hs0 next Q hn
 obtain ⟨e1, hok⟩ := bC hs0 hx
 obtain ⟨ec, -⟩ := iU (β := β) hc hok
 rw [hxs β] at ec
 have q0 : (underlying t).run C.P w = .ok (.slice e) w := by simp [underlying, ht]
 have hA : ((Array.range (1 * sz)).map (z0.cells[· % z0.cells.size]!)).size = sz := by simp
 have hf := fill_whole ec hl _ hA
 have hrun : (execOp a.eval ⟨some d, .buildSlice t 1 ⟨[(0, x)]⟩, ty, pos, after, gd⟩).run C.P w = .ok (.value (.slice (some ⟨w.heap.size, 0, none⟩) 1 1)) (w.alloc (.cells xs.toArray e)) := by
  have n1 : ¬ 1 * sz > 2 ^ 24 := by omega
  have n2 : ¬ 1 * sz = 0 := by omega
  simp only [execOp, Sem.run_bind]
  unfold Instr.buildSlice
  simp only [Sem.run_bind, q0, Result.andThen_ok, hs, if_neg n1, if_neg n2, hz, Sem.run_pure]
  have e3 : ((#[(0, x)] : Array (Nat × Operand)).map fun (i, y) => (i, a.eval y)).toList = [(0, v.den β)] := by simp [e1]
  simp only [e3, hf, Sem.run_bind, newRow, World.alloc_eq]
  simp [World.alloc_eq]
 unfold Oper.wp
 rw [hrun]
 have hs2 := hs0.alloc (r := .aK (dN e sz w.heap.size 1 1 xs)) trivial (.cells xs.toArray e) (fun β' hb => ⟨by simp, rfl, xs.toArray, by have := Row.new w e xs.toArray; unfold Row at this; exact this, Nat.le_refl _, by unfold maxLen; omega, by simp [hl], by simp [List.take_of_length_le, hl], by omega⟩) rfl
 have hs3 := hs2.put (d := d) (by simpa [Nat.blt_eq] using hd) (v := .any (.slice (some ⟨w.heap.size, 0, none⟩) 1 1)) rfl
 exact hn _ _ _ _ (h w.heap.size) hs3
theorem fO {C : Ctx} {d : Nat} {ty : TypeId} {pos : String} {after : Array Edge} {gd : Option (Nat × Bool)} {fr : List (Nat × SV)} {rows : List (Nat × Bool × aV)} {nx n : Nat} {K : St -> Prop}
  {x y : Operand} {t e : TypeId} {sz : Nat} (i j : Nat) {g n1 cap1 g2 m c2 : Nat} {xs ys : List Value} {inf : TypeInfo} {z : Value} (hd : Nat.blt d n = true)
  (ht : C.P.underlying t = some (.slice e)) (hi : C.P.info? e = some inf) (hz : inf.zero = some z) (hsize : inf.size = sz) (hzs : z.cells.size = sz) (h0 : 0 < sz)
  (hx : ev fr x = some (.any (.slice (some ⟨g, 0, none⟩) n1 cap1))) (hy : ev fr y = some (.any (.slice (some ⟨g2, 0, none⟩) m c2)))
  (ri : get rows i = some (true, .aK (dN e sz g n1 cap1 xs))) (rj : get rows j = some (true, .aK (dN e sz g2 m c2 ys)))
  (h63 : n1 + m <= maxLen) (hbytes : (n1 + m) * inf.bytes <= 140737488355328) (h1 : ∀ u ∈ ys, u.oneCell' = true) (hno : (wG i fr || rP i rows) = false) (hni : C.w0.n0 <= i)
  (h : ∀ g' cap', K ⟨(d, .any (.slice (some ⟨g', 0, none⟩) (n1 + m) cap')) :: fr, (i, true, .aK (dN e sz g' (n1 + m) cap' (xs ++ ys))) :: rows, nx, n⟩) :
  sZ C ⟨some d, .call ⟨.builtin .append, ⟨[x, y]⟩, ⟨[t, t]⟩⟩, ty, pos, after, gd⟩ ⟨fr, rows, nx, n⟩ K := by
 unfold sZ
 intro β a w hs next Q Rx
 have hm := hs.mem
 obtain ⟨qi, -, XA, Zc⟩ := hm.row i _ _ ri
 obtain ⟨qj, -, qj3, -⟩ := hm.row j _ _ rj
 have XA : i < nx := XA
 have hown := dN.owns qi.2 (Zc rfl)
 have hg : β i = g := qi.2.1
 have hnews := dN.cell qj.2
 have hml : ys.length = m * sz := by obtain ⟨-, cur, -, -, -, -, -, h6⟩ := qj.2; exact h6
 obtain ⟨v', w', hr, h2, h3, h4, h5⟩ := run_append_own_at (P := C.P) w C.base t ty e inf z sz inf.bytes ht hi hz hsize rfl hzs h0 _ n1 xs hown ⟨g2, 0, none⟩ m c2 ys hml hnews h1 h63 hbytes hm.aU
 have hnn : ¬ v' = .slice none 0 0 := fun e0 => by have := (h4.1 e0).1; cases this
 obtain ⟨hlen, hor⟩ := h2
 rcases hor with ⟨e0, e1⟩ | ⟨g', cap', cur, rfl, hb', hc', hn', hm', hs', ht'⟩
 ·exact absurd e0 hnn
 have hblk : g' = g \/ g' = w.heap.size := by simpa [Value.ownBlock] using h5
 unfold Oper.wp
 have e1 := (bC hs hx).1
 have e2 := (bC hs hy).1
 have hrun : (execOp a.eval ⟨some d, .call ⟨.builtin .append, ⟨[x, y]⟩, ⟨[t, t]⟩⟩, ty, pos, after, gd⟩).run C.P w = .ok (.value (.slice (some ⟨g', 0, none⟩) (n1 + m) cap')) w' := by
  unfold execOp
  simp only [resolve, invoke, builtin, Sem.run_bind, Sem.run_pure, Result.andThen_ok, List.map_toArray, List.map_cons, List.map_nil, e1, e2, SV.den, hr]
 rw [hrun]
 have hgs : g < w.heap.size := by rw [<- hg]; exact qi.1
 have hsz' : g' < w'.heap.size := by
  rcases Nat.lt_or_ge g' w'.heap.size with h0 | h0
  ·exact h0
  ·rw [Array.getElem?_eq_none h0] at hc'; cases hc'
 have hbg : C.base <= g := by rw [<- hg]; exact Zc rfl
 simp only [Bool.or_eq_false_iff] at hno
 have hβ : ∀ q, q ≠ i -> (fun q => if q = i then g' else β q) q = β q := fun q hq => by dsimp only; rw [if_neg hq]
 have hapart : ∀ q o r, get rows q = some (o, r) -> q ≠ i -> β q ≠ g := fun q o r hq hne => by rw [<- hg]; exact hm.inj i q _ o r ri hq hne
 have hother : ∀ p o r', get rows p = some (o, r') -> p ≠ i -> β p ≠ g' := fun p o r' hp hpi => by
  rcases hblk with e0 | e0
  ·rw [e0]; exact hapart p o r' hp hpi
  ·have := hm.lt p (hm.row p o r' hp).2.2.1; omega
 have hs2 : Sat C.base C.w0 ⟨fr, (i, true, .aK (dN e sz g' (n1 + m) cap' (xs ++ ys))) :: rows, nx, n⟩ (fun q => if q = i then g' else β q) a w' := by
  refine ⟨hs.defers, hs.size, fun s v hv => ?_, ⟨hm.below.os ▸ h3.os, hm.below.tape ▸ h3.tape, hm.below.output ▸ h3.output, Nat.le_trans hm.below.size h3.size, fun q hq => ?_⟩, Nat.le_trans hm.aU h3.size, fun q o r hq => ?_, fun q hq => ?_, fun q p r o r' hq hp hpq => ?_, hm.n0, fun q hq => ?_⟩
  ·obtain ⟨k1, k2⟩ := hs.slot s v hv
   exact ⟨by rw [k1, rQ hβ v (pI fr hno.1 hv)], k2⟩
  ·rw [h3.block q (zl hq hm.aU) (by simp [Value.ownBlock]; omega)]; exact hm.below.block q hq
  ·rw [aQ] at hq
   by_cases e0 : i = q
   ·rw [if_pos e0] at hq
    cases hq
    subst e0
    dsimp only
    rw [if_pos rfl]
    exact ⟨⟨hsz', rfl, cur, hc', hn', hm', hs', ht', hlen⟩, trivial, XA, fun _ => hb'⟩
   ·rw [if_neg e0] at hq
    obtain ⟨k1, k2, k3, k4⟩ := hm.row q o r hq
    have hqi : q ≠ i := fun e => e0 e.symm
    dsimp only
    rw [if_neg hqi]
    have k5 := yU (h3.block _ (hm.lt q k3) (by simp [Value.ownBlock]; exact hapart q o r hq hqi)) h3.size k1
    refine ⟨?_, k2, k3, k4⟩
    cases r with
    | cells t' cs => simp only [gU] at k5 ⊢; rw [jd hβ cs (kz rows hno.2 hq)]; exact k5
    | aK Φ => exact k5
  ·have hq : q < nx := hq
   by_cases e0 : q = i
   ·rw [if_pos e0]; exact hsz'
   ·rw [if_neg e0]; exact zl (hm.lt q hq) h3.size
  ·rw [aQ] at hq hp
   by_cases e0 : i = q
   ·rw [if_neg (by omega)] at hp
    rw [if_pos e0.symm, if_neg (by omega)]
    exact hother p o r' hp (by omega)
   ·rw [if_neg e0] at hq
    rw [if_neg (by omega : ¬ q = i)]
    by_cases e2 : i = p
    ·rw [if_pos e2.symm]; exact fun e3 => hother q _ _ hq (by omega) e3.symm
    ·rw [if_neg e2] at hp
     rw [if_neg (by omega)]
     exact hm.inj q p r o r' hq hp hpq
  ·rw [if_neg (by omega)]; exact hm.ext q hq
 have hs3 := hs2.put (d := d) (by simpa [Nat.blt_eq] using hd) (v := .any (.slice (some ⟨g', 0, none⟩) (n1 + m) cap')) rfl
 exact Rx _ _ _ _ (h g' cap') hs3
theorem iK {C : Ctx} {d : Nat} {ty : TypeId} {pos : String} {after : Array Edge} {gd : Option (Nat × Bool)} {fr : List (Nat × SV)} {rows : List (Nat × Bool × aV)} {nx n : Nat} {K : St -> Prop}
  {x y : Operand} {t e : TypeId} {sz : Nat} (j : Nat) {g2 m c2 : Nat} {ys : List Value} {inf : TypeInfo} {z : Value} (hd : Nat.blt d n = true)
  (ht : C.P.underlying t = some (.slice e)) (hi : C.P.info? e = some inf) (hz : inf.zero = some z) (hsize : inf.size = sz) (hzs : z.cells.size = sz) (h0 : 0 < sz)
  (hx : ev fr x = some (.any (.slice none 0 0))) (hy : ev fr y = some (.any (.slice (some ⟨g2, 0, none⟩) m c2)))
  (rj : get rows j = some (true, .aK (dN e sz g2 m c2 ys)))
  (h63 : m <= maxLen) (hbytes : m * inf.bytes <= 140737488355328) (h1 : ∀ u ∈ ys, u.oneCell' = true) (hm0 : 0 < m)
  (h : ∀ g' cap', K ⟨(d, .any (.slice (some ⟨g', 0, none⟩) m cap')) :: fr, (nx, true, .aK (dN e sz g' m cap' ys)) :: rows, nx + 1, n⟩) :
  sZ C ⟨some d, .call ⟨.builtin .append, ⟨[x, y]⟩, ⟨[t, t]⟩⟩, ty, pos, after, gd⟩ ⟨fr, rows, nx, n⟩ K := by
 unfold sZ
 intro β a w hs next Q Rx
 have hm := hs.mem
 obtain ⟨qj, -, qj3, -⟩ := hm.row j _ _ rj
 have hnews := dN.cell qj.2
 have hml : ys.length = m * sz := by obtain ⟨-, cur, -, -, -, -, -, h6⟩ := qj.2; exact h6
 obtain ⟨v', w', hr, h2, h3, h4, h5⟩ := run_append_own_at (P := C.P) w C.base t ty e inf z sz inf.bytes ht hi hz hsize rfl hzs h0 _ 0 [] (Sv w C.base e sz) ⟨g2, 0, none⟩ m c2 ys hml hnews h1 (by omega) (by rw [Nat.zero_add]; exact hbytes) hm.aU
 have hnn : ¬ v' = .slice none 0 0 := fun e0 => by have := (h4.1 e0).2; omega
 obtain ⟨hlen, hor⟩ := h2
 rcases hor with ⟨e0, e1⟩ | ⟨g', cap', cur, rfl, hb', hc', hn', hm', hs', ht'⟩
 ·exact absurd e0 hnn
 have hblk : g' = w.heap.size := by simpa [Value.ownBlock] using h5
 unfold Oper.wp
 have e1 := (bC hs hx).1
 have e2 := (bC hs hy).1
 have hrun : (execOp a.eval ⟨some d, .call ⟨.builtin .append, ⟨[x, y]⟩, ⟨[t, t]⟩⟩, ty, pos, after, gd⟩).run C.P w = .ok (.value (.slice (some ⟨g', 0, none⟩) (0 + m) cap')) w' := by
  unfold execOp
  simp only [resolve, invoke, builtin, Sem.run_bind, Sem.run_pure, Result.andThen_ok, List.map_toArray, List.map_cons, List.map_nil, e1, e2, SV.den, hr]
 rw [hrun]
 simp only [Nat.zero_add, List.nil_append] at *
 have hsz' : g' < w'.heap.size := by
  rcases Nat.lt_or_ge g' w'.heap.size with h0 | h0
  ·exact h0
  ·rw [Array.getElem?_eq_none h0] at hc'; cases hc'
 have hbel : Below w.heap.size w w' := ⟨h3.os, h3.tape, h3.output, h3.size, fun k hk => h3.block k hk (by simp [Value.ownBlock])⟩
 have hs' : Sat C.base C.w0 ⟨fr, rows, nx, n⟩ β a w' := ⟨hs.defers, hs.size, hs.slot, hm.fG hbel⟩
 have hs2 := hs'.learn (o := true) (b := g') (Φ := dN e sz g' m cap' ys) hsz' ⟨rfl, cur, hc', hn', hm', by assumption, ht', hlen⟩ (fun _ => ⟨hb', fun i o' r hi => by have := hm.lt i (hm.row i o' r hi).2.2.1; omega⟩) (fun i r hi => by have := hm.lt i (hm.row i true r hi).2.2.1; omega)
 have hs3 := hs2.put (d := d) (by simpa [Nat.blt_eq] using hd) (v := .any (.slice (some ⟨g', 0, none⟩) m cap')) rfl
 exact Rx _ _ _ _ (h g' cap') hs3
theorem Nj {α : Type} {f : α -> List Value} {sz : Nat} (hf : ∀ x, (f x).length = sz) : ∀ (L : List α) (k m : Nat) (x : α), L[k]? = some x -> m < sz -> (L.flatMap f)[k * sz + m]? = (f x)[m]?
 | [], k, m, x, h, _ => by simp at h
 | y :: L, 0, m, x, h, hm => by
   simp only [List.getElem?_cons_zero, Option.some.injEq] at h
   subst h
   rw [List.flatMap_cons, Nat.zero_mul, Nat.zero_add, List.getElem?_append_left (by rw [hf]; exact hm)]
 | y :: L, k + 1, m, x, h, hm => by
   rw [List.flatMap_cons, List.getElem?_append_right (by rw [hf, Nat.succ_mul]; omega), hf]
   have e : (k + 1) * sz + m - sz = k * sz + m := by rw [Nat.succ_mul]; omega
   rw [e]
   exact Nj hf L k m x (by simpa using h) hm
theorem Rn {α : Type} {f : α -> List Value} {sz : Nat} (hf : ∀ x, (f x).length = sz) (L : List α) : (L.flatMap f).length = L.length * sz := by
 induction L with
 | nil => simp
 | cons x L ih => rw [List.flatMap_cons, List.length_append, ih, hf, List.length_cons, Nat.succ_mul]; omega
end Sym
end
section
open Go.RowKit
namespace Sym
end Sym
end
section
open Go.RowKit
namespace Sym
end Sym
end
section
open Go.RowKit
namespace Sym
theorem kW {C : Ctx} {G : eU} {x : Operand} {t e : TypeId} {sz g m cap p : Nat} {xs : List Value} (i : Nat) (v : SV) (hag : ∀ w, (isAgg t).run C.P w = .ok false w) (ri : G i = some (dN e sz g m cap xs)) (hv : ∀ β, xs[p]? = some (v.den β)) :
  dH C G (.load t x) [.any (.pointer (some ((⟨g, 0, none⟩ : Addr).add p)))] v := by
 unfold dH
 intro ρ β w dst ty pos after gd _ hG h
 have e1 : ρ x = .pointer (some ((⟨g, 0, none⟩ : Addr).add p)) := by simpa [jg, SV.aF, SV.den] using h
 obtain ⟨h1, h2⟩ := hG i _ ri
 have hc := dN.cell h2 p _ (hv β)
 simp [execOp, Instr.loadAt, Instr.sureAddr, e1, loadVar, hag, hc]
theorem add_zero (a : Addr) : a.add 0 = a := by unfold Addr.add; split <;> simp_all
theorem WJ {C : Ctx} {G : eU} {x hi : Operand} {t e : TypeId} {sz : Nat} {a : Option Addr} {len cap j : Nat} {kd : IntKind} {i : Int} (hi0 : i = (j : Nat)) (ht : C.P.underlying t = some (.slice e)) (hs : ∀ w, (sizeOf e).run C.P w = .ok sz w) (hj : j <= cap) :
  dH C G (.slice t x none (some hi) none) [.any (.slice a len cap), .int kd i] (.any (.slice a j cap)) := by
 subst hi0
 unfold dH
 intro ρ β w dst ty pos after gd _ hG h
 have h' : ρ x = .slice a len cap /\ ρ hi = .int kd (j : Nat) := by simpa [jg, Sl, SV.aF, SV.den] using h
 have he : C.P.elem t = e := by simp [Program.elem, ht]
 have ht' : C.P.underlying t = some (.slice (C.P.elem t)) := by rw [he]; exact ht
 have h1 := run_slice_h (P := C.P) (w := w) t a len cap ht' kd (j : Nat) (by omega) (by omega)
 rw [he, hs] at h1
 have h2 : sliced a 0 ((j : Nat) : Int).toNat cap sz = .slice a j cap := by
  unfold sliced
  have : (if cap = 0 then a else a.map (·.add (0 * sz))) = a := by
   split
   ·rfl
   ·cases a <;> simp [add_zero]
  rw [this]; simp
 have h3 : (Instr.sliceAt t (.slice a len cap) none (some (.int kd (j : Nat))) none).run C.P w = .ok (.slice a j cap) w := by
  rw [run_sliceAt_slice (P := C.P) (w := w) t _ _ _ _ ht', h1, Result.andThen_ok, h2]
 simp [execOp, h'.1, h'.2, h3, SV.den]
theorem Sat.V4 {base : Nat} {w0 : Base} {β : Nat -> Nat} {a : Act} {w : World} {i : Nat} {Φ Φ' : Nat -> Option Obj -> Prop} {t : TypeId} {cs' : Array Value} {cs : Array Value} {fr : List (Nat × SV)} {rows : List (Nat × Bool × aV)} {nx n : Nat} (hs : Sat base w0 ⟨fr, rows, nx, n⟩ β a w) (hi : get rows i = some (true, .aK Φ)) (hr : w.heap[β i]? = some (.cells cs t (0, 0)))
  (hΦ : Φ' (β i) (some (.cells cs' t (0, 0)))) :
  Sat base w0 ⟨fr, (i, true, .aK Φ') :: rows, nx, n⟩ β a (w.setRow (β i) cs') := by
 obtain ⟨h1, h2, h3, h4⟩ := hs
 obtain ⟨k1, k2, k3, k4⟩ := h4.row i true _ hi
 have k3 : i < nx := k3
 have k4 := k4 rfl
 refine ⟨h1, h2, h3, ?_⟩
 refine ⟨h4.below.trans ⟨rfl, rfl, rfl, by rw [setRow_size]; exact Nat.le_refl _, fun k hk => setRow_other _ (by omega)⟩, by rw [setRow_size]; exact h4.aU, fun j ow r hj => ?_, fun j hj => by rw [setRow_size]; exact h4.lt j hj, fun j l r ol rl hj hl hlj => ?_, h4.n0, h4.ext⟩
 ·rw [aQ] at hj
  by_cases e : i = j
  ·rw [if_pos e] at hj
   cases hj
   subst e
   refine ⟨⟨by rw [setRow_size]; exact k1.1, ?_⟩, trivial, k3, fun _ => k4⟩
   have : (w.setRow (β i) cs').heap[β i]? = some (.cells cs' t (0, 0)) := setRow_heap w _ _ _ _ _ hr
   rw [this]; exact hΦ
  ·rw [if_neg e] at hj
   obtain ⟨m1, m2, m3, m4⟩ := h4.row j ow r hj
   have m3 : j < nx := m3
   have hne : β j ≠ β i := h4.inj i j _ ow r hi hj (fun e' => e e'.symm)
   refine ⟨?_, m2, m3, m4⟩
   cases r with
   | cells t2 c2 =>
     simp only [gU] at m1 ⊢
     unfold Row at m1 ⊢
     rw [setRow_other _ hne]; exact m1
   | aK Φ =>
     obtain ⟨q1, q2⟩ := m1
     exact ⟨by rw [setRow_size]; exact q1, by rw [setRow_other _ hne]; exact q2⟩
 ·have hj' : ∃ r0, get rows j = some (true, r0) := by
   rw [aQ] at hj
   by_cases e : i = j
   ·subst e; exact ⟨_, hi⟩
   ·rw [if_neg e] at hj; exact ⟨_, hj⟩
  have hl' : ∃ o0 r0, get rows l = some (o0, r0) := by
   rw [aQ] at hl
   by_cases e : i = l
   ·subst e; exact ⟨_, _, hi⟩
   ·rw [if_neg e] at hl; exact ⟨_, _, hl⟩
  obtain ⟨r0, hj'⟩ := hj'
  obtain ⟨o1, r1, hl'⟩ := hl'
  exact h4.inj j l r0 o1 r1 hj' hl' hlj
theorem fH {C : Ctx} (hE : dL C.P C.E) {ty : TypeId} {pos : String} {after : Array Edge} {gd : Option (Nat × Bool)} {fr : List (Nat × SV)} {rows : List (Nat × Bool × aV)} {nx n : Nat} {K : St -> Prop}
  {t e : TypeId} {x y : Operand} (i : Nat) {p g m cap : Nat} {xs : List Value} {v : SV} {u : Value} {kd : TK} {ag : Bool} {z : List SV}
  (hx : ev fr x = some (.any (.pointer (some ((⟨g, 0, none⟩ : Addr).add p))))) (hy : ev fr y = some v) (hc : gV v = some [v]) (ho : v.one = true) (hu : ∀ β, v.den β = u) (ht : get C.E t = some ⟨kd, 1, ag, z⟩)
  (ri : get rows i = some (true, .aK (dN e 1 g m cap xs))) (hp : p < m)
  (h : K ⟨fr, (i, true, .aK (dN e 1 g m cap (xs.set p u))) :: rows, nx, n⟩) : sZ C ⟨none, .store t x y, ty, pos, after, gd⟩ ⟨fr, rows, nx, n⟩ K := by
 unfold sZ
 intro β a w hs next Q hn
 have ht' := iy hE ht
 obtain ⟨ex, _⟩ := bC hs hx
 obtain ⟨ey, oy⟩ := bC hs hy
 obtain ⟨ec, oc⟩ := iU (β := β) hc oy
 have hm := hs.mem
 obtain ⟨k1, k2, k3, k4⟩ := hm.row i true _ ri
 obtain ⟨q0, cur, q1, q2, q3, q4, q5, q6⟩ := k1.2
 have hrow : Row w g e cur := by unfold Row; rw [<- q0]; exact q1
 have hlt : p < cur.size := by omega
 have hst := run_storeCells_at (P := C.P) g p e (SV.aF β [v]) 0 cur w hrow (by simp [SV.aF]; omega) (jP (n := nx) (by simp [jY, ho]) ⟨oy, trivial⟩)
 have hcs : (cur.toList.take (p + 0) ++ SV.aF β [v] ++ cur.toList.drop (p + 0 + (SV.aF β [v]).length)).toArray = cur.setIfInBounds p u := by
  apply Array.toList_inj.1
  rw [Array.toList_setIfInBounds]
  simp only [SV.aF, hu, Nat.add_zero, List.length_cons, List.length_nil, List.toList_toArray]
  rw [List.set_eq_take_append_cons_drop, if_pos (by simpa using hlt)]
  simp
 rw [hcs] at hst
 have hst2 : (storeVar t ⟨g, p, none⟩ (v.den β)).run C.P w = .ok () (w.setRow g (cur.setIfInBounds p u)) := by
  simp only [storeVar, Sem.run_bind, ht'.size, Result.andThen_ok, ec]
  rw [if_neg (by simp [SV.aF])]
  exact hst
 rw [uK] at ex
 simp only [SV.den, Nat.zero_add] at ex
 unfold Oper.wp
 have : (execOp a.eval ⟨none, .store t x y, ty, pos, after, gd⟩).run C.P w = .ok .skip (w.setRow g (cur.setIfInBounds p u)) := by
  simp [execOp, Instr.storeAt, ex, ey, Instr.sureAddr, hst2]
 rw [this]
 show next (a.put none undef) _
 have hs2 := hs.V4 (Φ' := dN e 1 g m cap (xs.set p u)) (cs' := cur.setIfInBounds p u) ri q1 ⟨q0, _, rfl, q2, q3, by simpa using q4, by rw [Array.toList_setIfInBounds, <- q5, List.take_set], by simpa using q6⟩
 rw [q0] at hs2
 exact hn _ _ _ _ h hs2
theorem pM {C : Ctx} {d : Nat} {ty : TypeId} {pos : String} {after : Array Edge} {gd : Option (Nat × Bool)} {fr : List (Nat × SV)} {rows : List (Nat × Bool × aV)} {nx n : Nat} {K : St -> Prop}
  {x y : Operand} {t e : TypeId} {kl kc : IntKind} {m : Nat} {i : Int} {inf : TypeInfo} {z : Value} (hd : Nat.blt d n = true) (hi : i = (m : Nat)) (hx : ev fr x = some (.int kl i)) (hy : ev fr y = some (.int kc i))
  (ht : C.P.underlying t = some (.slice e)) (hin : C.P.info? e = some inf) (hz : inf.zero = some z) (hsize : inf.size = 1) (hzc : z.cells = #[z]) (hbytes : inf.bytes * m <= 281474976710656) (h63 : m <= maxLen)
  (h : ∀ g, K ⟨(d, .any (.slice (some ⟨g, 0, none⟩) m m)) :: fr, (nx, true, .aK (dN e 1 g m m (List.replicate m z))) :: rows, nx + 1, n⟩) :
  sZ C ⟨some d, .makeSlice t x y, ty, pos, after, gd⟩ ⟨fr, rows, nx, n⟩ K := by
 subst hi
 unfold sZ
 intro β a w hs next Q hn
 have e1 := (bC hs hx).1
 have e2 := (bC hs hy).1
 have h63' : ((m : Nat) : Int) <= 9223372036854775807 := by simp only [maxLen] at h63; omega
 have hb' : (inf.bytes : Int) * ((m : Nat) : Int) <= 281474976710656 := by
  have h : ((inf.bytes * m : Nat) : Int) <= 281474976710656 := by omega
  rwa [Int.natCast_mul] at h
 have hr := run_make (P := C.P) w t e inf z ht hin hz kl kc m m (by omega) (Int.le_refl _) hb' h63'
 simp only [Int.toNat_natCast, hsize, hzc, Nat.mul_one] at hr
 have hc : madeCells #[z] m = (List.replicate m z).toArray := by
  apply Array.toList_inj.1
  rw [toList_madeCells_one]
 rw [hc] at hr
 unfold Oper.wp
 have : (execOp a.eval ⟨some d, .makeSlice t x y, ty, pos, after, gd⟩).run C.P w = .ok (.value (.slice (some ⟨w.heap.size, 0, none⟩) m m)) (w.alloc (.cells (List.replicate m z).toArray e)) := by
  simp only [execOp, e1, e2, SV.den, Sem.run_bind, hr]; simp
 rw [this]
 have hs2 := hs.alloc (r := .aK (dN e 1 w.heap.size m m (List.replicate m z))) trivial (.cells (List.replicate m z).toArray e) (fun β' hb => ⟨by simp, rfl, (List.replicate m z).toArray, by have := Row.new w e (List.replicate m z).toArray; unfold Row at this; exact this, Nat.le_refl _, h63, by simp, by simp, by simp⟩) rfl
 have hs3 := hs2.put (d := d) (by simpa [Nat.blt_eq] using hd) (v := .any (.slice (some ⟨w.heap.size, 0, none⟩) m m)) rfl
 exact hn _ _ _ _ (h w.heap.size) hs3
theorem O6 {C : Ctx} {d : Nat} {ty : TypeId} {pos : String} {after : Array Edge} {gd : Option (Nat × Bool)} {fr : List (Nat × SV)} {rows : List (Nat × Bool × aV)} {nx n : Nat} {K : St -> Prop}
  {x y : Operand} {t e : TypeId} {kl kc : IntKind} {m : Nat} {i : Int} {inf : TypeInfo} {z : Value} (hd : Nat.blt d n = true) (hi : i = (m : Nat)) (hx : ev fr x = some (.int kl 0)) (hy : ev fr y = some (.int kc i))
  (ht : C.P.underlying t = some (.slice e)) (hin : C.P.info? e = some inf) (hz : inf.zero = some z) (hsize : inf.size = 1) (hzc : z.cells = #[z]) (hbytes : inf.bytes * m <= 281474976710656) (h63 : m <= maxLen)
  (h : ∀ g, K ⟨(d, .any (.slice (some ⟨g, 0, none⟩) 0 m)) :: fr, (nx, true, .aK (dN e 1 g 0 m [])) :: rows, nx + 1, n⟩) :
  sZ C ⟨some d, .makeSlice t x y, ty, pos, after, gd⟩ ⟨fr, rows, nx, n⟩ K := by
 subst hi
 unfold sZ
 intro β a w hs next Q hn
 have e1 := (bC hs hx).1
 have e2 := (bC hs hy).1
 have h63' : ((m : Nat) : Int) <= 9223372036854775807 := by simp only [maxLen] at h63; omega
 have hb' : (inf.bytes : Int) * ((m : Nat) : Int) <= 281474976710656 := by
  have h : ((inf.bytes * m : Nat) : Int) <= 281474976710656 := by omega
  rwa [Int.natCast_mul] at h
 have hr := run_make (P := C.P) w t e inf z ht hin hz kl kc 0 m (Int.le_refl _) (by omega) hb' h63'
 simp only [Int.toNat_natCast, Int.toNat_zero, hsize, hzc, Nat.mul_one] at hr
 unfold Oper.wp
 have : (execOp a.eval ⟨some d, .makeSlice t x y, ty, pos, after, gd⟩).run C.P w = .ok (.value (.slice (some ⟨w.heap.size, 0, none⟩) 0 m)) (w.alloc (.cells (madeCells #[z] m) e)) := by
  simp only [execOp, e1, e2, SV.den, Sem.run_bind, hr]; simp
 rw [this]
 have hs2 := hs.alloc (r := .aK (dN e 1 w.heap.size 0 m [])) trivial (.cells (madeCells #[z] m) e) (fun β' hb => ⟨by simp, rfl, madeCells #[z] m, by have := Row.new w e (madeCells #[z] m); unfold Row at this; exact this, Nat.zero_le _, h63, by simp [size_madeCells], by simp, by simp⟩) rfl
 have hs3 := hs2.put (d := d) (by simpa [Nat.blt_eq] using hd) (v := .any (.slice (some ⟨w.heap.size, 0, none⟩) 0 m)) rfl
 exact hn _ _ _ _ (h w.heap.size) hs3
def bV (base : Nat) (a : Option Addr) (xs : List Value) (b : Nat) (o : Option Obj) : Prop := G7 a xs b o /\ (xs ≠ [] -> base <= b)
def bz (a : Option Addr) (xs : List Value) (w : World) : Prop := xs ≠ [] -> Yd a w
theorem aS.ZC {a : Option Addr} {xs : List Value} {w w' : World} {base : Nat} (h : aS a xs w') (hf : bz a xs w) (hbw : base <= w.heap.size) (h0 : 0 < base) (hb : base <= w'.heap.size) : ∃ b, (w.heap.size <= b \/ b < base) /\ b < w'.heap.size /\ bV base a xs b w'.heap[b]? := by
 cases xs with
 | nil => exact ⟨0, .inr h0, by omega, fun _ _ i v hi => by simp at hi, fun h => absurd rfl h⟩
 | cons x r =>
   obtain ⟨ad, e, h1, _⟩ := h 0 x rfl
   have hf := hf (by simp)
   refine ⟨ad.block, .inl (hf ad e), h1, fun W hW i v hi => ?_, fun _ => Nat.le_trans hbw (hf ad e)⟩
   obtain ⟨ad', e', h2, h3⟩ := h i v hi
   rw [e] at e'
   cases e'
   exact ⟨ad, e, rfl, by rw [World.cell?_of_block (w := w') (by rw [add_block]; exact hW)]; exact h3⟩
theorem bV.at {base : Nat} {a : Option Addr} {xs : List Value} {b : Nat} {w : World} (h : bV base a xs b w.heap[b]?) (hb : b < w.heap.size) : aS a xs w := h.1.at hb
theorem bV.fresh {base : Nat} {a : Option Addr} {xs : List Value} {b : Nat} {w w0 : World} (h : bV base a xs b w.heap[b]?) (e : w0.heap.size = base) : bz a xs w0 := fun hx ad ha => by
 obtain ⟨x, r, rfl⟩ := List.exists_cons_of_ne_nil hx
 obtain ⟨ad', e', h2, -⟩ := h.1 w rfl 0 x rfl
 rw [ha] at e'
 cases e'
 have := h.2 hx
 omega
theorem Uz {C : Ctx} {d : Nat} {f : FuncId} {args : List SV} {fr : List (Nat × SV)} {rows : List (Nat × Bool × aV)} {nx n : Nat} {K : St -> Prop} {T : Type}
  (V : T -> SV) (A : T -> Option Addr) (X : T -> List Value) (h0 : 0 < C.base)
  (he : dK C.P f = true) (hd : Nat.blt d n = true) (hv : ∀ t, (V t).ok nx) (hc : ∀ β w, Mem C.base C.w0 rows nx β w -> Calls C.P f (SV.aF β args).toArray w fun e w' => Below w.heap.size w w' /\ ∃ t, e = .returned ((V t).den β) /\ aS (A t) (X t) w' /\ bz (A t) (X t) w)
  (h : ∀ t, (X t ≠ [] -> ∃ ad, A t = some ad) -> K ⟨(d, V t) :: fr, (nx, false, .aK (bV C.base (A t) (X t))) :: rows, nx + 1, n⟩) : fE C (some d) f args ⟨fr, rows, nx, n⟩ K := by
 unfold fE
 refine ⟨he, fun β a w hs => (hc β w hs.mem).mono ?_⟩
 rintro e w' ⟨hb, t, rfl, hsl, hfr⟩
 have hm := hs.mem
 obtain ⟨b, h1, h2, h3⟩ := hsl.ZC hfr hm.aU h0 (Nat.le_trans hm.aU hb.size)
 have hs' : Sat C.base C.w0 ⟨fr, rows, nx, n⟩ β a w' := ⟨hs.defers, hs.size, hs.slot, hm.fG hb⟩
 have hs2 := hs'.learn (o := false) h2 h3 (fun e => by cases e) (fun i r hi => by
  have := hm.lt i (hm.row i true r hi).2.2.1
  have := (hm.row i true r hi).2.2.2 rfl
  omega)
 have hs3 := hs2.put (d := d) (by simpa [Nat.blt_eq] using hd) (SV.kT (Nat.le_succ _) _ (hv t))
 have e1 : (V t).den (fun i => if i = nx then b else β i) = (V t).den β := SV.qo (n := nx) (fun i hi => by rw [if_neg (by omega)]) _ (hv t)
 rw [e1] at hs3
 exact ⟨_, _, _, rfl, h t (fun hx => hsl.some hx), hs3⟩
theorem Qx {C : Ctx} {d : Nat} {f : FuncId} {args : List SV} {fr : List (Nat × SV)} {rows : List (Nat × Bool × aV)} {nx n : Nat} {K : St -> Prop} {T : Type}
  (V : T -> SV) (A B : T -> Option Addr) (X Y : T -> List Value) (h0 : 0 < C.base)
  (he : dK C.P f = true) (hd : Nat.blt d n = true) (hv : ∀ t, (V t).ok nx) (hc : ∀ β w, Mem C.base C.w0 rows nx β w -> Calls C.P f (SV.aF β args).toArray w fun e w' => Below w.heap.size w w' /\ ∃ t, e = .returned ((V t).den β) /\ (aS (A t) (X t) w' /\ bz (A t) (X t) w) /\ (aS (B t) (Y t) w' /\ bz (B t) (Y t) w))
  (h : ∀ t, (X t ≠ [] -> ∃ ad, A t = some ad) -> (Y t ≠ [] -> ∃ ad, B t = some ad) -> K ⟨(d, V t) :: fr, (nx + 1, false, .aK (bV C.base (B t) (Y t))) :: (nx, false, .aK (bV C.base (A t) (X t))) :: rows, nx + 1 + 1, n⟩) : fE C (some d) f args ⟨fr, rows, nx, n⟩ K := by
 unfold fE
 refine ⟨he, fun β a w hs => (hc β w hs.mem).mono ?_⟩
 rintro e w' ⟨hb, t, rfl, ⟨hsl, hfr⟩, hsl2, hfr2⟩
 have hm := hs.mem
 obtain ⟨b, h1, h2, h3⟩ := hsl.ZC hfr hm.aU h0 (Nat.le_trans hm.aU hb.size)
 obtain ⟨b2, g1, g2, g3⟩ := hsl2.ZC hfr2 hm.aU h0 (Nat.le_trans hm.aU hb.size)
 have hs' : Sat C.base C.w0 ⟨fr, rows, nx, n⟩ β a w' := ⟨hs.defers, hs.size, hs.slot, hm.fG hb⟩
 have hs2 := hs'.learn (o := false) h2 h3 (fun e => by cases e) (fun i r hi => by
  have := hm.lt i (hm.row i true r hi).2.2.1
  have := (hm.row i true r hi).2.2.2 rfl
  omega)
 have hs2 := hs2.learn (o := false) g2 g3 (fun e => by cases e) (fun i r hi => by
  rw [aQ] at hi
  by_cases e0 : nx = i
  ·rw [if_pos e0] at hi; cases hi
  ·rw [if_neg e0] at hi
   have := hm.lt i (hm.row i true r hi).2.2.1
   have := (hm.row i true r hi).2.2.2 rfl
   have h3 : i < nx := (hm.row i true r hi).2.2.1
   rw [if_neg (by omega)]
   omega)
 have hs3 := hs2.put (d := d) (by simpa [Nat.blt_eq] using hd) (SV.kT (Nat.le_trans (Nat.le_succ _) (Nat.le_succ _)) _ (hv t))
 have e1 : (V t).den (fun i => if i = nx + 1 then b2 else if i = nx then b else β i) = (V t).den β := SV.qo (n := nx) (fun i hi => by rw [if_neg (by omega), if_neg (by omega)]) _ (hv t)
 rw [e1] at hs3
 exact ⟨_, _, _, rfl, h t (fun hx => hsl.some hx) (fun hx => hsl2.some hx), hs3⟩
theorem zF {C : Ctx} {c : Code} {k : List It} {fr : List (Nat × SV)} {rows : List (Nat × Bool × aV)} {nx n : Nat} (h0 : 0 < C.base) (h : LoopN C c k ⟨fr, (nx, false, .aK (bV C.base none [])) :: rows, nx + 1, n⟩) : LoopN C c k ⟨fr, rows, nx, n⟩ := by
 unfold LoopN at h ⊢
 intro β a w hs
 have hm := hs.mem
 have hb := hm.aU
 exact h _ _ _ (hs.learn (o := false) (b := 0) (Φ := bV C.base none []) (by omega) ⟨fun _ _ i v hi => by simp at hi, fun h => absurd rfl h⟩ (fun e => by cases e) (fun i r hi => by
  have := (hm.row i true r hi).2.2.2 rfl
  omega))
end Sym
end
section
namespace ae
def bu (b k x : Nat) : Nat := x / b ^ k % b
def tab {α : Type} (n : Nat) (f : Nat -> α) : List α := (List.range n).map f
def lI (b n x : Nat) : List Nat := tab n (fun k => bu b k x)
theorem um {α : Type} (n : Nat) (f : Nat -> α) : (tab n f).length = n := by simp [tab]
theorem uk {α : Type} (n : Nat) (f : Nat -> α) (i : Nat) (h : i < n) : (tab n f)[i]? = some (f i) := by simp [tab, h]
theorem TD {α : Type} (n : Nat) (f : Nat -> α) : tab (n + 1) f = tab n f ++ [f n] := by simp [tab, List.range_succ]
theorem iQ {α : Type} {n : Nat} {f g : Nat -> α} (h : ∀ k, k < n -> f k = g k) : tab n f = tab n g := by
 unfold tab
 apply List.map_congr_left
 intro k hk
 exact h k (by simpa using hk)
theorem Ap {α : Type} (n : Nat) (f : Nat -> α) (j : Nat) (v : α) : (tab n f).set j v = tab n (fun k => if k = j then v else f k) := by
 apply List.ext_getElem?
 intro i
 by_cases h : i < n
 ·rw [uk _ _ _ h, List.getElem?_set]
  by_cases e : j = i
  ·subst e; simp [um, h]
  ·rw [if_neg e, uk _ _ _ h, if_neg (fun e' => e e'.symm)]
 ·rw [List.getElem?_eq_none (by rw [List.length_set, um]; omega), List.getElem?_eq_none (by rw [um]; omega)]
theorem dG {b : Nat} (hb : 0 < b) (k x : Nat) : bu b k x < b := Nat.mod_lt _ hb
theorem kR {b : Nat} (hb : 0 < b) {j low m : Nat} (h : low < b ^ j) (k : Nat) : bu b k (low + m * b ^ j) = if k < j then bu b k low else bu b (k - j) m := by
 unfold bu
 split
 ·rename_i hk
  have e : b ^ j = b * b ^ (j - k - 1) * b ^ k := by rw [<- Nat.pow_succ', <- Nat.pow_add]; congr 1; omega
  have e2 : m * b ^ j = (m * b ^ (j - k - 1) * b) * b ^ k := by rw [e]; simp [Nat.mul_comm, Nat.mul_left_comm, Nat.mul_assoc]
  rw [e2, Nat.add_mul_div_right _ _ (Nat.pow_pos hb), Nat.add_mul_mod_self_right]
 ·rename_i hk
  have e : b ^ k = b ^ j * b ^ (k - j) := by rw [<- Nat.pow_add]; congr 1; omega
  rw [e, <- Nat.div_div_eq_div_mul, Nat.add_mul_div_right _ _ (Nat.pow_pos hb), Nat.div_eq_of_lt h, Nat.zero_add]
theorem iG (b i x : Nat) : x % b ^ (i + 1) = x % b ^ i + bu b i x * b ^ i := by
 rw [Nat.mod_pow_succ, bu, Nat.mul_comm]
theorem A8 {b k x : Nat} (h : x < b ^ k) : bu b k x = 0 := by
 unfold bu; rw [Nat.div_eq_of_lt h]; simp
theorem dQ {b x n m : Nat} (hb : 0 < b) (h : x < b ^ n) (hm : n <= m) : x < b ^ m := zl h (Nat.pow_le_pow_right hb hm)
theorem QV {b : Nat} (hb : 0 < b) {i V d : Nat} (hV : V < b ^ i) (hd : d < b) : lI b (i + 1) (V + d * b ^ i) = lI b i V ++ [d] := by
 unfold lI
 rw [TD, kR hb hV, if_neg (by omega), Nat.sub_self]
 congr 1
 ·exact iQ fun k hk => by rw [kR hb hV, if_pos hk]
 ·simp [bu, Nat.mod_eq_of_lt hd]
theorem qK {b i V d : Nat} (hV : V < b ^ i) (hd : d < b) : V + d * b ^ i < b ^ (i + 1) := by
 have h1 : d * b ^ i <= (b - 1) * b ^ i := Nat.mul_le_mul_right _ (by omega)
 have h2 : (b - 1) * b ^ i + b ^ i = b ^ (i + 1) := by
  rw [<- Nat.succ_mul, Nat.pow_succ, Nat.mul_comm]; congr 1; omega
 omega
def upd (b V j d : Nat) : Nat := V % b ^ j + d * b ^ j + V / b ^ (j + 1) * b ^ (j + 1)
theorem parts (b V j : Nat) : V = V % b ^ j + bu b j V * b ^ j + V / b ^ (j + 1) * b ^ (j + 1) := by
 have h := Nat.mod_add_div V (b ^ (j + 1))
 rw [iG, Nat.mul_comm] at h
 rw [Nat.mul_comm (V / b ^ (j + 1))]
 rw [Nat.mul_comm] at h
 omega
theorem Wi {b V j d : Nat} (hb : 0 < b) (hd : d < b) (k : Nat) : bu b k (upd b V j d) = if k = j then d else bu b k V := by
 have hl : V % b ^ j < b ^ j := Nat.mod_lt _ (Nat.pow_pos hb)
 have h2 : V % b ^ j + d * b ^ j < b ^ (j + 1) := qK hl hd
 have h3 : V % b ^ j + bu b j V * b ^ j < b ^ (j + 1) := qK hl (dG hb j V)
 unfold upd
 rw [kR hb h2]
 conv => rhs; rw [parts b V j, kR hb h3]
 by_cases e : k < j + 1
 ·rw [if_pos e, if_pos e, kR hb hl, kR hb hl]
  by_cases e2 : k = j
  ·subst e2
   rw [if_neg (by omega), if_pos rfl, Nat.sub_self]; simp [bu, Nat.mod_eq_of_lt hd]
  ·rw [if_pos (by omega), if_neg e2, if_pos (by omega)]
 ·rw [if_neg e, if_neg e, if_neg (by omega)]
theorem qp {b n V j d : Nat} (hb : 0 < b) (hd : d < b) : (lI b n V).set j d = lI b n (upd b V j d) := by
 unfold lI
 rw [Ap]
 exact iQ fun k _ => (Wi hb hd k).symm
theorem Gv (b V j d : Nat) : upd b V j d + bu b j V * b ^ j = V + d * b ^ j := by
 have := parts b V j
 unfold upd
 omega
def Qh (b : Nat) : Nat -> Nat -> Nat
 | 0, _ => 0
 | f + 1, x => if x = 0 then 0 else Qh b f (x / b) + 1
def nd (b x : Nat) : Nat := Qh b x x
theorem wH {b : Nat} (hb : 2 <= b) : ∀ (f x : Nat), x <= f -> x < b ^ Qh b f x /\ (Qh b f x = 0 \/ b ^ (Qh b f x - 1) <= x)
 | 0, x, h => by
   obtain rfl : x = 0 := by omega
   simp [Qh]
 | f + 1, x, h => by
   unfold Qh
   split
   ·rename_i h0; subst h0; simp
   ·rename_i h0
    have hlt : x / b < x := Nat.div_lt_self (by omega) (by omega)
    obtain ⟨h1, h2⟩ := wH hb f (x / b) (by omega)
    refine ⟨?_, .inr ?_⟩
    ·rw [Nat.pow_succ]; exact (Nat.div_lt_iff_lt_mul (by omega)).1 h1
    ·rw [Nat.add_sub_cancel]
     rcases h2 with h2 | h2
     ·rw [h2]; simp; omega
     ·by_cases h3 : Qh b f (x / b) = 0
      ·rw [h3]; simp; omega
      ·have e : Qh b f (x / b) = (Qh b f (x / b) - 1) + 1 := by omega
       rw [e, Nat.pow_succ]
       exact Nat.le_trans (Nat.mul_le_mul_right _ h2) (Nat.div_mul_le_self _ _)
theorem dP {b : Nat} (hb : 2 <= b) (x : Nat) : x < b ^ nd b x := (wH hb x x (Nat.le_refl _)).1
theorem dX {b : Nat} (hb : 2 <= b) {x n : Nat} (h : x < b ^ n) : nd b x <= n := by
 rcases (wH hb x x (Nat.le_refl _)).2 with h0 | h0
 ·unfold nd; omega
 ·unfold nd
  rcases Nat.lt_or_ge n (Qh b x x) with h1 | h1
  ·have := Nat.pow_le_pow_right (n := b) (by omega) (show n <= Qh b x x - 1 by omega)
   omega
  ·exact h1
theorem pG {b : Nat} (hb : 2 <= b) {x n : Nat} (h : n < nd b x) : b ^ n <= x := by
 rcases Nat.lt_or_ge x (b ^ n) with h1 | h1
 ·have := dX hb h1; omega
 ·exact h1
theorem wI {b : Nat} (hb : 2 <= b) {x n : Nat} (h : x < b ^ n) (h1 : n = 0 \/ b ^ (n - 1) <= x) : nd b x = n := by
 have h2 := dX hb h
 rcases h1 with h1 | h1
 ·omega
 ·rcases Nat.lt_or_ge (nd b x) n with h3 | h3
  ·have := Nat.pow_le_pow_right (n := b) (by omega) (show nd b x <= n - 1 by omega)
   have := dP hb x
   omega
  ·omega
theorem aT (b : Nat) : nd b 0 = 0 := rfl
theorem fM {b : Nat} (hb : 2 <= b) {x : Nat} : 0 < nd b x ↔ 0 < x := by
 constructor
 ·intro h; have := pG hb h; simp at this; omega
 ·intro h
  rcases Nat.eq_zero_or_pos (nd b x) with h0 | h0
  ·have := dP hb x; rw [h0] at this; simp at this; omega
  ·exact h0
def dg (b x : Nat) : List Nat := lI b (nd b x) x
theorem WX (b x : Nat) : (dg b x).length = nd b x := um _ _
theorem nY (b n x : Nat) : (lI b n x).length = n := um _ _
theorem kQ (b n x i : Nat) (h : i < n) : (lI b n x)[i]? = some (bu b i x) := uk _ _ _ h
theorem EH {b x m : Nat} (hb : 0 < b) (h : x < b ^ (m + 1)) (h0 : bu b m x = 0) : x < b ^ m := by
 unfold bu at h0
 have h1 : x / b ^ m < b := Nat.div_lt_of_lt_mul (by rw [<- Nat.pow_succ]; exact h)
 rw [Nat.mod_eq_of_lt h1] at h0
 exact (Nat.div_eq_zero_iff_lt (Nat.pow_pos hb)).1 h0
theorem wX {b x m : Nat} (hb : 2 <= b) (h : x < b ^ m) (h0 : m = 0 \/ bu b (m - 1) x ≠ 0) : nd b x = m := by
 refine wI hb h (h0.imp id fun h1 => ?_)
 rcases Nat.lt_or_ge x (b ^ (m - 1)) with h2 | h2
 ·exact absurd (A8 h2) h1
 ·exact h2
structure Au (b x y i c S : Nat) : Prop where
 eq : S + c * b ^ i = x % b ^ i + y % b ^ i
 lt : S < b ^ i
 top : i = 0 \/ b ^ (i - 1) <= x + y
theorem Ej {b x y i c S : Nat} (hb : 2 <= b) (h : Au b x y i c S) (hg : i < nd b x \/ i < nd b y \/ 0 < c) : Au b x y (i + 1) ((c + bu b i x + bu b i y) / b) (S + (c + bu b i x + bu b i y) % b * b ^ i) := by
 obtain ⟨h1, h2, h3⟩ := h
 refine ⟨?_, qK h2 (Nat.mod_lt _ (by omega)), .inr ?_⟩
 ·rw [iG, iG]
  have e := Nat.mod_add_div (c + bu b i x + bu b i y) b
  generalize (c + bu b i x + bu b i y) % b = r at *
  generalize (c + bu b i x + bu b i y) / b = q at *
  rw [Nat.pow_succ]
  have e2 : (r + b * q) * b ^ i = (c + bu b i x + bu b i y) * b ^ i := by rw [e]
  simp only [Nat.add_mul] at e2
  have e3 : q * (b ^ i * b) = b * q * b ^ i := by simp [Nat.mul_comm, Nat.mul_left_comm, Nat.mul_assoc]
  rw [e3]; omega
 ·rw [Nat.add_sub_cancel]
  rcases hg with hg | hg | hg
  ·have := pG hb hg; omega
  ·have := pG hb hg; omega
  ·have h4 : b ^ i <= c * b ^ i := Nat.le_mul_of_pos_left _ hg
   have := Nat.mod_le x (b ^ i)
   have := Nat.mod_le y (b ^ i)
   omega
theorem Ji {b x y i S : Nat} (hb : 2 <= b) (h : Au b x y i 0 S) (h1 : nd b x <= i) (h2 : nd b y <= i) : S = x + y /\ i = nd b (x + y) := by
 obtain ⟨e, l, t⟩ := h
 have hx := dQ (by omega : 0 < b) (dP hb x) h1
 have hy := dQ (by omega : 0 < b) (dP hb y) h2
 rw [Nat.mod_eq_of_lt hx, Nat.mod_eq_of_lt hy] at e
 obtain rfl : S = x + y := by omega
 exact ⟨rfl, (wI hb l t).symm⟩
theorem BR {b x y i c S : Nat} (hb : 2 <= b) (h : Au b x y i c S) : c <= 1 := by
 obtain ⟨e, l, -⟩ := h
 have hx : x % b ^ i < b ^ i := Nat.mod_lt _ (Nat.pow_pos (by omega))
 have hy : y % b ^ i < b ^ i := Nat.mod_lt _ (Nat.pow_pos (by omega))
 rcases Nat.lt_or_ge c 2 with h2 | h2
 ·omega
 ·have := Nat.mul_le_mul_right (b ^ i) h2; omega
structure uI (b x y i c D : Nat) : Prop where
 eq : y % b ^ i + D = x % b ^ i + c * b ^ i
 lt : D < b ^ i
 bit : c <= 1
theorem BH {b x y i c D : Nat} (hb : 2 <= b) (h : uI b x y i c D) (hg : bu b i x < c + bu b i y) : uI b x y (i + 1) 1 (D + (bu b i x + b - (c + bu b i y)) * b ^ i) := by
 obtain ⟨h1, h2, h3⟩ := h
 have hx := dG (by omega : 0 < b) i x
 have hy := dG (by omega : 0 < b) i y
 refine ⟨?_, qK h2 (by omega), Nat.le_refl _⟩
 rw [iG, iG, Nat.pow_succ]
 obtain ⟨d, hd⟩ : ∃ d, bu b i x + b = d + (c + bu b i y) := ⟨bu b i x + b - (c + bu b i y), by omega⟩
 rw [hd, Nat.add_sub_cancel]
 have e := congrArg (· * b ^ i) hd
 simp only [Nat.add_mul] at e
 rw [Nat.mul_comm (b ^ i) b]
 omega
theorem zH {b x y i c D : Nat} (hb : 2 <= b) (h : uI b x y i c D) (hg : ¬ bu b i x < c + bu b i y) : uI b x y (i + 1) 0 (D + (bu b i x - (c + bu b i y)) * b ^ i) := by
 obtain ⟨h1, h2, h3⟩ := h
 have hx := dG (by omega : 0 < b) i x
 refine ⟨?_, qK h2 (by omega), by omega⟩
 rw [iG, iG]
 obtain ⟨d, hd⟩ : ∃ d, bu b i x = d + (c + bu b i y) := ⟨bu b i x - (c + bu b i y), by omega⟩
 rw [hd, Nat.add_sub_cancel]
 simp only [Nat.add_mul]
 omega
theorem Ec {b x y n c D : Nat} (hb : 2 <= b) (h : uI b x y n c D) (hx : x < b ^ n) (hy : y <= x) : D = x - y /\ c = 0 := by
 obtain ⟨e, l, t⟩ := h
 rw [Nat.mod_eq_of_lt hx, Nat.mod_eq_of_lt (by omega)] at e
 have hc : c = 0 := by
  rcases Nat.eq_zero_or_pos c with h0 | h0
  ·exact h0
  ·have := Nat.le_mul_of_pos_left (b ^ n) h0; omega
 subst hc
 omega
theorem Hq {b x y i : Nat} (hb : 0 < b) (h : x / b ^ (i + 1) = y / b ^ (i + 1)) (hd : bu b i x = bu b i y) : x / b ^ i = y / b ^ i := by
 unfold bu at hd
 have e1 := Nat.mod_add_div (x / b ^ i) b
 have e2 := Nat.mod_add_div (y / b ^ i) b
 rw [Nat.div_div_eq_div_mul, <- Nat.pow_succ] at e1 e2
 rw [<- e1, <- e2, hd, h]
theorem vV {b x y i : Nat} (hb : 0 < b) (h : x / b ^ (i + 1) = y / b ^ (i + 1)) (hd : bu b i x < bu b i y) : x < y := by
 unfold bu at hd
 have e1 := Nat.mod_add_div (x / b ^ i) b
 have e2 := Nat.mod_add_div (y / b ^ i) b
 rw [Nat.div_div_eq_div_mul, <- Nat.pow_succ] at e1 e2
 simp only [Nat.succ_eq_add_one, h] at e1 e2
 have : x / b ^ i < y / b ^ i := by omega
 exact Nat.lt_of_not_le fun h2 => by have := Nat.div_le_div_right (c := b ^ i) h2; omega
theorem tY {b x y : Nat} (hb : 2 <= b) (h : nd b x < nd b y) : x < y := by
 have h1 := dP hb x
 have h2 := pG hb h
 omega
end ae
end
end Go.Proofs.YtdkhkfdenlabaaaGreatDoor
