/- A walk that reckons: numbers as slices of digits. A walk that reckons: slices held against nil, bools held against each other, an empty slice made. A walk that reckons: what is known of one block is told of another number; slices that are arguments; calls that may answer with an argument. slices.Backward over a number's digits: the contract of a range over it. -/
import Derived.Test.YtfodbfbljeeojaaGreatDoorFGD
import Derived.Laws.Cover3
import Derived.RangeFuncNested
import Derived.RangeFuncBound
import Derived.RangeFuncCalls
import Derived.RangeFuncLeaves
import Derived.RangeFuncBox
import Derived.Shelf.Abstract
import Derived.Shelf.RegionOpen
import Derived.WalkKit
import Derived.OwnWalkIn
import Derived.TacticsInMore
import Derived.LoopNIn
import Derived.LoopIn
set_option linter.unusedSimpArgs false
set_option linter.unusedVariables false
namespace Go.Proofs.YtfodbfbljeeojaaGreatDoor
open Go.RowKit
namespace Sym
open ExP (nd dig dg dgN tab)
def valsK (k : IntKind) (l : List Nat) : List Value := l.map fun (d : Nat) => Value.int k (d : Int)
theorem valsK_len (k : IntKind) (l : List Nat) : (valsK k l).length = l.length := by simp [valsK]
theorem valsK_get {k : IntKind} {l : List Nat} {i d : Nat} (h : l[i]? = some d) : (valsK k l)[i]? = some (.int k (d : Int)) := by simp [valsK, h]
theorem valsK_append (k : IntKind) (l m : List Nat) : valsK k (l ++ m) = valsK k l ++ valsK k m := by simp [valsK]
theorem valsK_set (k : IntKind) (l : List Nat) (i d : Nat) : (valsK k l).set i (.int k (d : Int)) = valsK k (l.set i d) := by simp [valsK, List.map_set]
theorem valsK_one (k : IntKind) (l : List Nat) : ∀ u ∈ valsK k l, u.oneCell' = true := by
  intro u hu
  simp only [valsK, List.mem_map] at hu
  obtain ⟨d, -, rfl⟩ := hu
  rfl
abbrev nv (k : IntKind) (b x : Nat) : List Value := valsK k (dg b x)
theorem nv_len (k : IntKind) (b x : Nat) : (nv k b x).length = nd b x := by rw [valsK_len, ExP.dg_len]
theorem nv_get {k : IntKind} {b x i : Nat} (h : i < nd b x) : (nv k b x)[i]? = some (.int k (dig b i x : Nat)) := valsK_get (ExP.dgN_get _ _ _ _ h)
theorem nv_ne {k : IntKind} {b x : Nat} (h : 0 < nd b x) : nv k b x ≠ [] := fun e => by have := nv_len k b x; rw [e] at this; simp at this; omega
theorem sl_pre {a : Option Addr} {xs ys : List Value} {w : World} (h : SlAt a xs w) (hp : ∀ (i : Nat) (v : Value), ys[i]? = some v → xs[i]? = some v) : SlAt a ys w := fun i v hv => h i v (hp i v hv)
theorem sl_read {ad : Addr} {xs : List Value} {w : World} (h : SlAt (some ad) xs w) {i : Nat} {v : Value} (hv : xs[i]? = some v) : ∀ w', Below w.heap.size w w' → w'.cell? (ad.add i) = some v := fun w' hb => by
  obtain ⟨a', e, _, hc⟩ := (h.below hb) i v hv
  cases e; exact hc
theorem sl_nil (a : Option Addr) (w : World) : SlAt a [] w := fun i v h => by simp at h
theorem dgN_pre {b n m x : Nat} (h : m ≤ n) (k : IntKind) : ∀ (i : Nat) (v : Value), (valsK k (dgN b m x))[i]? = some v → (valsK k (dgN b n x))[i]? = some v := fun i v hv => by
  have hi : i < m := by have := (List.getElem?_eq_some_iff.1 hv).1; rw [valsK_len, ExP.dgN_len] at this; exact this
  rw [valsK_get (ExP.dgN_get _ _ _ _ hi)] at hv
  rw [valsK_get (ExP.dgN_get _ _ _ _ (by omega)), hv]
/-- a function that answers with a number as a slice of its own making -/
def NatOut (k : IntKind) (b x : Nat) (w : World) (e : Ending) (w' : World) : Prop :=
  ∃ a cap, e = .returned (.slice a (nd b x) cap) ∧ SlAt a (nv k b x) w' ∧ FreshX a (nv k b x) w ∧ (a = none → cap = 0) ∧ nd b x ≤ cap ∧ Below w.heap.size w w'
/-- two of them -/
def NatOut2 (k : IntKind) (b x y : Nat) (w : World) (e : Ending) (w' : World) : Prop :=
  ∃ a cap a2 cap2, e = .returned (.tuple #[.slice a (nd b x) cap, .slice a2 (nd b y) cap2]) ∧ (SlAt a (nv k b x) w' ∧ FreshX a (nv k b x) w ∧ (a = none → cap = 0) ∧ nd b x ≤ cap) ∧ (SlAt a2 (nv k b y) w' ∧ FreshX a2 (nv k b y) w ∧ (a2 = none → cap2 = 0) ∧ nd b y ≤ cap2) ∧ Below w.heap.size w w'
theorem Mem.slF {base : Nat} {w0 : Base} {rows : List (Nat × Bool × SRow)} {nx : Nat} {β : Nat → Nat} {w : World} (hm : Mem base w0 rows nx β w) (j : Nat) {o : Bool} {bs : Nat} {a : Option Addr} {xs : List Value} (hj : get rows j = some (o, .blob (SlF bs a xs))) : SlAt a xs w :=
  (hm.row j _ _ hj).1.2.at (hm.row j _ _ hj).1.1
theorem Mem.freshF {base : Nat} {w0 : Base} {rows : List (Nat × Bool × SRow)} {nx : Nat} {β : Nat → Nat} {w W : World} (hm : Mem base w0 rows nx β w) (j : Nat) {o : Bool} {a : Option Addr} {xs : List Value} (hj : get rows j = some (o, .blob (SlF base a xs))) (e : W.heap.size = base) : FreshX a xs W :=
  (hm.row j _ _ hj).1.2.fresh e
theorem Mem.own {base : Nat} {w0 : Base} {rows : List (Nat × Bool × SRow)} {nx : Nat} {β : Nat → Nat} {w : World} (hm : Mem base w0 rows nx β w) (j : Nat) {e : TypeId} {sz g n cap : Nat} {xs : List Value} (hj : get rows j = some (true, .blob (OwnS e sz g n cap xs))) :
    SlAt (some ⟨g, 0, none⟩) xs w ∧ base ≤ g ∧ n ≤ cap := by
  obtain ⟨h1, -, -, h4⟩ := hm.row j _ _ hj
  refine ⟨h1.2.slAt h1.1, by rw [← h1.2.1]; exact h4 rfl, ?_⟩
  obtain ⟨-, cur, -, h, -⟩ := h1.2
  exact h
theorem fresh_own {g : Nat} {xs : List Value} {W : World} {base : Nat} (h : base ≤ g) (e : W.heap.size = base) : FreshX (some ⟨g, 0, none⟩) xs W := fun _ ad h' => by cases h'; dsimp only; omega
theorem callNat {C : Ctx} {d : Nat} {f : FuncId} {args : List SV} {fr : List (Nat × SV)} {rows : List (Nat × Bool × SRow)} {nx n : Nat} {K : St → Prop} (k : IntKind) (b x : Nat) (h0 : 0 < C.base)
    (he : entersB C.P f = true) (hd : Nat.blt d n = true) (hc : ∀ β w, Mem C.base C.w0 rows nx β w → Calls C.P f (SV.dens β args).toArray w (NatOut k b x w))
    (h : ∀ a cap, (a = none → cap = 0) → nd b x ≤ cap → (0 < nd b x → ∃ ad, a = some ad) → K ⟨(d, .any (.slice a (nd b x) cap)) :: fr, (nx, false, .blob (SlF C.base a (nv k b x))) :: rows, nx + 1, n⟩) : CallX C (some d) f args ⟨fr, rows, nx, n⟩ K :=
  callSlF (T := {t : Option Addr × Nat // (t.1 = none → t.2 = 0) ∧ nd b x ≤ t.2}) (fun t => .any (.slice t.1.1 (nd b x) t.1.2)) (fun t => t.1.1) (fun _ => nv k b x) h0 he hd (fun _ => rfl)
    (fun β w hm => (hc β w hm).mono fun e w' ⟨a, cap, he, h1, h2, h3, h4, h5⟩ => ⟨h5, ⟨(a, cap), h3, h4⟩, he, h1, h2⟩)
    (fun t hs => h t.1.1 t.1.2 t.2.1 t.2.2 (fun hn => hs (nv_ne hn)))
theorem callNat2 {C : Ctx} {d : Nat} {f : FuncId} {args : List SV} {fr : List (Nat × SV)} {rows : List (Nat × Bool × SRow)} {nx n : Nat} {K : St → Prop} (k : IntKind) (b x y : Nat) (h0 : 0 < C.base)
    (he : entersB C.P f = true) (hd : Nat.blt d n = true) (hc : ∀ β w, Mem C.base C.w0 rows nx β w → Calls C.P f (SV.dens β args).toArray w (NatOut2 k b x y w))
    (h : ∀ a cap a2 cap2, (a = none → cap = 0) → nd b x ≤ cap → (0 < nd b x → ∃ ad, a = some ad) → (a2 = none → cap2 = 0) → nd b y ≤ cap2 → (0 < nd b y → ∃ ad, a2 = some ad) →
      K ⟨(d, .tup [.any (.slice a (nd b x) cap), .any (.slice a2 (nd b y) cap2)]) :: fr, (nx + 1, false, .blob (SlF C.base a2 (nv k b y))) :: (nx, false, .blob (SlF C.base a (nv k b x))) :: rows, nx + 1 + 1, n⟩) : CallX C (some d) f args ⟨fr, rows, nx, n⟩ K :=
  callSlF2 (T := {t : (Option Addr × Nat) × (Option Addr × Nat) // ((t.1.1 = none → t.1.2 = 0) ∧ nd b x ≤ t.1.2) ∧ ((t.2.1 = none → t.2.2 = 0) ∧ nd b y ≤ t.2.2)}) (fun t => .tup [.any (.slice t.1.1.1 (nd b x) t.1.1.2), .any (.slice t.1.2.1 (nd b y) t.1.2.2)]) (fun t => t.1.1.1) (fun t => t.1.2.1) (fun _ => nv k b x) (fun _ => nv k b y) h0 he hd (fun _ => ⟨rfl, rfl, trivial⟩)
    (fun β w hm => (hc β w hm).mono fun e w' ⟨a, cap, a2, cap2, he, ⟨h1, h2, h3, h4⟩, ⟨g1, g2, g3, g4⟩, h5⟩ => ⟨h5, ⟨((a, cap), (a2, cap2)), ⟨h3, h4⟩, ⟨g3, g4⟩⟩, he, ⟨h1, h2⟩, ⟨g1, g2⟩⟩)
    (fun t hs hs2 => h t.1.1.1 t.1.1.2 t.1.2.1 t.1.2.2 t.2.1.1 t.2.1.2 (fun hn => hs (nv_ne hn)) t.2.2.1 t.2.2.2 (fun hn => hs2 (nv_ne hn)))
/-- a cell of a slice that a call has made, read -/
theorem x_loadF {C : Ctx} {G : Blobs} {x : Operand} {t : TypeId} {a : Addr} {j bs : Nat} {xs : List Value} (i : Nat) (v : SV) (hag : ∀ w, (isAgg t).run C.P w = .ok false w) (ri : G i = some (SlF bs (some a) xs)) (hv : ∀ β, xs[j]? = some (v.den β)) :
    ExtN C G (.load t x) [.any (.pointer (some (a.add j)))] v := by
  unfold ExtN
  intro ρ β w dst ty pos after gd _ hG h
  have e1 : ρ x = .pointer (some (a.add j)) := by simpa [opsX, SV.dens, SV.den] using h
  obtain ⟨h1, h2, -⟩ := hG i _ ri
  obtain ⟨ad, e, _, hc⟩ := h2 w rfl j _ (hv β)
  cases e
  simp [execOp, Instr.loadAt, Instr.sureAddr, e1, loadVar, hag, hc]
/-- a slice of one's own is lengthened by what another one shows -/
theorem opx_appendW {C : Ctx} {d : Nat} {ty : TypeId} {pos : String} {after : Array Edge} {gd : Option (Nat × Bool)} {fr : List (Nat × SV)} {rows : List (Nat × Bool × SRow)} {nx n : Nat} {K : St → Prop}
    {x y : Operand} {t e : TypeId} {sz : Nat} (i : Nat) {g n1 cap1 m c2 : Nat} {y0 : Option Addr} {xs ys : List Value} {inf : TypeInfo} {z : Value} (hd : Nat.blt d n = true)
    (ht : C.P.underlying t = some (.slice e)) (hi : C.P.info? e = some inf) (hz : inf.zero = some z) (hsize : inf.size = sz) (hzs : z.cells.size = sz) (h0 : 0 < sz)
    (hx : ev fr x = some (.any (.slice (some ⟨g, 0, none⟩) n1 cap1))) (hy : ev fr y = some (.any (.slice y0 m c2)))
    (ri : get rows i = some (true, .blob (OwnS e sz g n1 cap1 xs))) (hyn : y0 = none → c2 = 0) (hyl : ys.length = m * sz) (hys : ∀ β w, Mem C.base C.w0 rows nx β w → SlAt y0 ys w)
    (h63 : n1 + m ≤ maxLen) (hbytes : (n1 + m) * inf.bytes ≤ 140737488355328) (h1 : ∀ u ∈ ys, u.oneCell' = true) (hno : (mentF i fr || mentR i rows) = false) (hni : C.w0.n0 ≤ i)
    (h : ∀ g' cap', K ⟨(d, .any (.slice (some ⟨g', 0, none⟩) (n1 + m) cap')) :: fr, (i, true, .blob (OwnS e sz g' (n1 + m) cap' (xs ++ ys))) :: rows, nx, n⟩) :
    OpX C ⟨some d, .call ⟨.builtin .append, ⟨[x, y]⟩, ⟨[t, t]⟩⟩, ty, pos, after, gd⟩ ⟨fr, rows, nx, n⟩ K := by
  unfold OpX
  intro β a w hs next Q hnn0
  have hm := hs.mem
  obtain ⟨qi, -, qi3, qi4⟩ := hm.row i _ _ ri
  have qi3 : i < nx := qi3
  have hown := OwnS.owns qi.2 (qi4 rfl)
  have hg : β i = g := qi.2.1
  have hyw := hys β w hm
  have e1 := (ev_sound hs hx).1
  have e2 := (ev_sound hs hy).1
  have key : ∃ v' w', (Builtin.append_ #[t, t] ty #[.slice (some ⟨g, 0, none⟩) n1 cap1, .slice y0 m c2]).run C.P w = .ok v' w' ∧ w'.ownsRow C.base e sz v' (n1 + m) (xs ++ ys) ∧ w.grownBy w' (some g) ∧ v' ≠ .slice none 0 0 ∧ (v'.ownBlock = some g ∨ v'.ownBlock = some w.heap.size) := by
    cases y0 with
    | none =>
      have hc2 := hyn rfl
      have hys0 : ys = [] := by
        cases ys with
        | nil => rfl
        | cons u r => obtain ⟨ad, e0, -⟩ := hyw 0 u rfl; cases e0
      subst hys0
      have hm0 : m = 0 := by
        rcases Nat.eq_zero_or_pos m with h' | h'
        · exact h'
        · have := Nat.mul_pos h' h0; simp at hyl; omega
      subst hm0 hc2
      have hr := run_append_owned_none (P := C.P) (w := w) C.base t ty e inf sz ht hi _ n1 xs hown
      refine ⟨_, w, hr, by simpa using hown, ⟨rfl, rfl, rfl, Nat.le_refl _, fun k _ _ => rfl⟩, by simp, .inl rfl⟩
    | some ad =>
      obtain ⟨v', w', hr, h2, h3, h4, h5⟩ := run_append_own_at (P := C.P) w C.base t ty e inf z sz inf.bytes ht hi hz hsize rfl hzs h0 _ n1 xs hown ad m c2 ys hyl (fun j u hj => by obtain ⟨ad', e0, -, hc⟩ := hyw j u hj; cases e0; exact hc) h1 h63 hbytes hm.base_le
      exact ⟨v', w', hr, h2, h3, (fun e0 => by have := (h4.1 e0).1; cases this), h5⟩
  obtain ⟨v', w', hr, h2, h3, hnn, h5⟩ := key
  obtain ⟨hlen, hor⟩ := h2
  rcases hor with ⟨e0, e1⟩ | ⟨g', cap', cur, rfl, hb', hc', hn', hm', hs', ht'⟩
  · exact absurd e0 hnn
  have hblk : g' = g ∨ g' = w.heap.size := by simpa [Value.ownBlock] using h5
  unfold Oper.wp
  have hrun : (execOp a.eval ⟨some d, .call ⟨.builtin .append, ⟨[x, y]⟩, ⟨[t, t]⟩⟩, ty, pos, after, gd⟩).run C.P w = .ok (.value (.slice (some ⟨g', 0, none⟩) (n1 + m) cap')) w' := by
    unfold execOp
    simp only [resolve, invoke, builtin, Sem.run_bind, Sem.run_pure, Result.andThen_ok, List.map_toArray, List.map_cons, List.map_nil, e1, e2, SV.den, hr]
  rw [hrun]
  have hgs : g < w.heap.size := by rw [← hg]; exact qi.1
  have hsz' : g' < w'.heap.size := by
    rcases Nat.lt_or_ge g' w'.heap.size with h0 | h0
    · exact h0
    · rw [Array.getElem?_eq_none h0] at hc'; cases hc'
  have hbg : C.base ≤ g := by rw [← hg]; exact qi4 rfl
  simp only [Bool.or_eq_false_iff] at hno
  have hβ : ∀ q, q ≠ i → (fun q => if q = i then g' else β q) q = β q := fun q hq => by dsimp only; rw [if_neg hq]
  have hapart : ∀ q o r, get rows q = some (o, r) → q ≠ i → β q ≠ g := fun q o r hq hne => by rw [← hg]; exact hm.inj i q _ o r ri hq hne
  have hother : ∀ p o r', get rows p = some (o, r') → p ≠ i → β p ≠ g' := fun p o r' hp hpi => by
    rcases hblk with e0 | e0
    · rw [e0]; exact hapart p o r' hp hpi
    · have := hm.lt p (hm.row p o r' hp).2.2.1; omega
  have hs2 : Sat C.base C.w0 ⟨fr, (i, true, .blob (OwnS e sz g' (n1 + m) cap' (xs ++ ys))) :: rows, nx, n⟩ (fun q => if q = i then g' else β q) a w' := by
    refine ⟨hs.defers, hs.size, fun s v hv => ?_, ⟨hm.below.os ▸ h3.os, hm.below.tape ▸ h3.tape, hm.below.output ▸ h3.output, Nat.le_trans hm.below.size h3.size, fun q hq => ?_⟩, Nat.le_trans hm.base_le h3.size, fun q o r hq => ?_, fun q hq => ?_, fun q p r o r' hq hp hpq => ?_, hm.n0, fun q hq => ?_⟩
    · obtain ⟨k1, k2⟩ := hs.slot s v hv
      exact ⟨by rw [k1, ment_den hβ v (mentF_get fr hno.1 hv)], k2⟩
    · rw [h3.block q (Nat.lt_of_lt_of_le hq hm.base_le) (by simp; omega)]; exact hm.below.block q hq
    · rw [get_cons] at hq
      by_cases e0 : i = q
      · rw [if_pos e0] at hq
        cases hq
        subst e0
        dsimp only
        rw [if_pos rfl]
        exact ⟨⟨hsz', rfl, cur, hc', hn', hm', hs', ht', hlen⟩, trivial, qi3, fun _ => hb'⟩
      · rw [if_neg e0] at hq
        obtain ⟨k1, k2, k3, k4⟩ := hm.row q o r hq
        have hqi : q ≠ i := fun e => e0 e.symm
        dsimp only
        rw [if_neg hqi]
        have k5 := RowIs_block (h3.block _ (hm.lt q k3) (by simp; exact hapart q o r hq hqi)) h3.size k1
        refine ⟨?_, k2, k3, k4⟩
        cases r with
        | cells t' cs => simp only [RowIs] at k5 ⊢; rw [ments_den hβ cs (mentR_get rows hno.2 hq)]; exact k5
        | blob Φ => exact k5
    · have hq : q < nx := hq
      by_cases e0 : q = i
      · rw [if_pos e0]; exact hsz'
      · rw [if_neg e0]; exact Nat.lt_of_lt_of_le (hm.lt q hq) h3.size
    · rw [get_cons] at hq hp
      by_cases e0 : i = q
      · rw [if_neg (by omega)] at hp
        rw [if_pos e0.symm, if_neg (by omega)]
        exact hother p o r' hp (by omega)
      · rw [if_neg e0] at hq
        rw [if_neg (by omega : ¬ q = i)]
        by_cases e2 : i = p
        · rw [if_pos e2.symm]; exact fun e3 => hother q _ _ hq (by omega) e3.symm
        · rw [if_neg e2] at hp
          rw [if_neg (by omega)]
          exact hm.inj q p r o r' hq hp hpq
    · rw [if_neg (by omega)]; exact hm.ext q hq
  have hs3 := hs2.put (d := d) (by simpa [Nat.blt_eq] using hd) (v := .any (.slice (some ⟨g', 0, none⟩) (n1 + m) cap')) rfl
  exact hnn0 _ _ _ _ (h g' cap') hs3
end Sym
end Go.Proofs.YtfodbfbljeeojaaGreatDoor
namespace Go.Proofs.YtfodbfbljeeojaaGreatDoor
open Go.RowKit
namespace Sym
theorem x_eqNil {C : Ctx} {G : Blobs} {x y : Operand} {t u e : TypeId} {a : Option Addr} {n c : Nat} (ht : C.P.underlying t = some (.slice e)) : ExtN C G (.binOp .eql t x y u) [.any (.slice a n c), .any (.slice none 0 0)] (.bool a.isNone) := by
  unfold ExtN
  intro ρ β w dst ty pos after g _ _ h
  have h' : ρ x = .slice a n c ∧ ρ y = .slice none 0 0 := by simpa [opsX, SV.dens, SV.den] using h
  have h2 := run_equal_slice_nil (P := C.P) w t e a n c ht
  simp [execOp, eqGuard, binOp, h'.1, h'.2, h2, SV.den]
theorem x_eqBB {C : Ctx} {G : Blobs} {x y : Operand} {t u : TypeId} {va vb : SV} (a b : Bool) (c : Bool) (ha : ∀ β, va.den β = .bool a) (hb : ∀ β, vb.den β = .bool b) (hc : (a == b) = c) (ht : C.P.underlying t = some .bool) : ExtN C G (.binOp .eql t x y u) [va, vb] (.lit c) := by
  unfold ExtN
  intro ρ β w dst ty pos after g _ _ h
  have h' : ρ x = .bool a ∧ ρ y = .bool b := by simpa [opsX, SV.dens, SV.den, ha, hb] using h
  have h2 := run_eql_bool (P := C.P) (w := w) t a b ht
  simp [execOp, eqGuard, h'.1, h'.2, h2, SV.den, hc]
theorem x_neBB {C : Ctx} {G : Blobs} {x y : Operand} {t u : TypeId} {va vb : SV} (a b : Bool) (ha : ∀ β, va.den β = .bool a) (hb : ∀ β, vb.den β = .bool b) (ht : C.P.underlying t = some .bool) : ExtN C G (.binOp .neq t x y u) [va, vb] (.bool (a != b)) := by
  unfold ExtN
  intro ρ β w dst ty pos after g _ _ h
  have h' : ρ x = .bool a ∧ ρ y = .bool b := by simpa [opsX, SV.dens, SV.den, ha, hb] using h
  have h2 := run_neq_bool (P := C.P) (w := w) t a b ht
  simp [execOp, eqGuard, h'.1, h'.2, h2, SV.den]
  cases a <;> cases b <;> rfl
/-- an empty slice is made -/
theorem opx_build0 {C : Ctx} {d : Nat} {ty : TypeId} {pos : String} {after : Array Edge} {gd : Option (Nat × Bool)} {fr : List (Nat × SV)} {rows : List (Nat × Bool × SRow)} {nx n : Nat} {K : St → Prop}
    {t e : TypeId} {sz : Nat} (hd : Nat.blt d n = true) (ht : C.P.underlying t = some (.slice e)) (hs : ∀ w, (sizeOf e).run C.P w = .ok sz w)
    (h : ∀ g, K ⟨(d, .any (.slice (some ⟨g, 0, none⟩) 0 0)) :: fr, (nx, true, .blob (OwnS e sz g 0 0 [])) :: rows, nx + 1, n⟩) :
    OpX C ⟨some d, .buildSlice t 0 ⟨[]⟩, ty, pos, after, gd⟩ ⟨fr, rows, nx, n⟩ K := by
  unfold OpX
  intro β a w hs0 next Q hn
  have q0 : (underlying t).run C.P w = .ok (.slice e) w := by simp [underlying, ht]
  have hrun : (execOp a.eval ⟨some d, .buildSlice t 0 ⟨[]⟩, ty, pos, after, gd⟩).run C.P w = .ok (.value (.slice (some ⟨w.heap.size, 0, none⟩) 0 0)) (w.alloc (.cells #[] e)) := by
    have hr : Array.range 0 = #[] := rfl
    simp [execOp, Instr.buildSlice, q0, hs, Instr.fill, newRow, World.alloc_eq, hr]
  unfold Oper.wp
  rw [hrun]
  have hs2 := hs0.alloc (r := .blob (OwnS e sz w.heap.size 0 0 [])) trivial (.cells #[] e) (fun β' hb => ⟨by simp, rfl, #[], by have := Row.new w e #[]; unfold Row at this; exact this, Nat.le_refl _, by unfold maxLen; omega, by simp, by simp, by simp⟩) rfl
  have hs3 := hs2.put (d := d) (by simpa [Nat.blt_eq] using hd) (v := .any (.slice (some ⟨w.heap.size, 0, none⟩) 0 0)) rfl
  exact hn _ _ _ _ (h w.heap.size) hs3
/-- a call that answers with a slice of its own making that may be written -/
def OwnOut (e : TypeId) (n : Nat) (xs : List Value) (w : World) (ev : Ending) (w' : World) : Prop := ∃ g cap, ev = .returned (.slice (some ⟨g, 0, none⟩) n cap) ∧ w.heap.size ≤ g ∧ g < w'.heap.size ∧ OwnS e 1 g n cap xs g w'.heap[g]? ∧ Below w.heap.size w w'
theorem callOwn {C : Ctx} {d : Nat} {f : FuncId} {args : List SV} {fr : List (Nat × SV)} {rows : List (Nat × Bool × SRow)} {nx n : Nat} {K : St → Prop} (e : TypeId) (m : Nat) (xs : List Value)
    (he : entersB C.P f = true) (hd : Nat.blt d n = true) (hc : ∀ β w, Mem C.base C.w0 rows nx β w → Calls C.P f (SV.dens β args).toArray w (OwnOut e m xs w))
    (h : ∀ g cap, K ⟨(d, .any (.slice (some ⟨g, 0, none⟩) m cap)) :: fr, (nx, true, .blob (OwnS e 1 g m cap xs)) :: rows, nx + 1, n⟩) : CallX C (some d) f args ⟨fr, rows, nx, n⟩ K := by
  unfold CallX
  refine ⟨he, fun β a w hs => (hc β w hs.mem).mono ?_⟩
  rintro ev w' ⟨g, cap, rfl, h1, h2, h3, hb⟩
  have hm := hs.mem
  have hs' : Sat C.base C.w0 ⟨fr, rows, nx, n⟩ β a w' := ⟨hs.defers, hs.size, hs.slot, hm.belowNext hb⟩
  have hs2 := hs'.learn (o := true) (b := g) (Φ := OwnS e 1 g m cap xs) h2 h3 (fun _ => ⟨Nat.le_trans hm.base_le h1, fun i o' r hi => by have := hm.lt i (hm.row i o' r hi).2.2.1; omega⟩) (fun i r hi => by have := hm.lt i (hm.row i true r hi).2.2.1; omega)
  have hs3 := hs2.put (d := d) (by simpa [Nat.blt_eq] using hd) (v := .any (.slice (some ⟨g, 0, none⟩) m cap)) rfl
  exact ⟨_, _, _, rfl, h g cap, hs3⟩
theorem retOwn {base : Nat} {w0 : Base} {rows : List (Nat × Bool × SRow)} {nx : Nat} {β : Nat → Nat} {w : World} (hm : Mem base w0 rows nx β w) (j : Nat) {e : TypeId} {g n cap : Nat} {xs : List Value} (hj : get rows j = some (true, .blob (OwnS e 1 g n cap xs))) : base ≤ g ∧ g < w.heap.size ∧ OwnS e 1 g n cap xs g w.heap[g]? := by
  obtain ⟨h1, -, -, h4⟩ := hm.row j _ _ hj
  have hg : β j = g := h1.2.1
  have h1' := h1.2
  rw [hg] at h1'
  exact ⟨by rw [← hg]; exact h4 rfl, by rw [← hg]; exact h1.1, h1'⟩
end Sym
end Go.Proofs.YtfodbfbljeeojaaGreatDoor
namespace Go.Proofs.YtfodbfbljeeojaaGreatDoor
open Go.RowKit
namespace Sym
open ExP (nd)
theorem Sat.copy {base : Nat} {w0 : Base} {β : Nat → Nat} {a : Act} {w : World} {fr : List (Nat × SV)} {rows : List (Nat × Bool × SRow)} {nx n : Nat} (i j : Nat) {Φ : Nat → Option Obj → Prop} (hs : Sat base w0 ⟨fr, rows, nx, n⟩ β a w) (hj : get rows j = some (false, .blob Φ)) (hi : i < nx) (hij : i ≠ j) (hn0 : w0.n0 ≤ i)
    (hno : (mentF i fr || mentR i rows) = false) : Sat base w0 ⟨fr, (i, false, .blob Φ) :: rows, nx, n⟩ (fun q => if q = i then β j else β q) a w := by
  obtain ⟨h1, h2, h3, h4⟩ := hs
  simp only [Bool.or_eq_false_iff] at hno
  have hβ : ∀ q, q ≠ i → (fun q => if q = i then β j else β q) q = β q := fun q hq => by dsimp only; rw [if_neg hq]
  obtain ⟨k1, -, k3, -⟩ := h4.row j _ _ hj
  refine ⟨h1, h2, fun s v hv => ?_, ?_⟩
  · obtain ⟨e1, e2⟩ := h3 s v hv
    exact ⟨by rw [e1, ment_den hβ v (mentF_get fr hno.1 hv)], e2⟩
  refine ⟨h4.below, h4.base_le, fun q o r hq => ?_, fun q hq => ?_, fun q p r o r' hq hp hpq => ?_, h4.n0, fun q hq => ?_⟩
  · rw [get_cons] at hq
    by_cases e : i = q
    · rw [if_pos e] at hq
      cases hq
      subst e
      try dsimp only
      rw [if_pos rfl]
      exact ⟨k1, trivial, hi, fun e => by cases e⟩
    · rw [if_neg e] at hq
      obtain ⟨m1, m2, m3, m4⟩ := h4.row q o r hq
      try dsimp only
      rw [if_neg (fun e' => e e'.symm)]
      refine ⟨?_, m2, m3, m4⟩
      cases r with
      | cells t cs => simp only [RowIs] at m1 ⊢; rw [ments_den hβ cs (mentR_get rows hno.2 hq)]; exact m1
      | blob Φ => exact m1
  · have hq : q < nx := hq
    try dsimp only
    split
    · exact h4.lt j k3
    · exact h4.lt q hq
  · rw [get_cons] at hq hp
    by_cases e : i = q
    · rw [if_pos e] at hq; cases hq
    · rw [if_neg e] at hq
      have e' : ¬ q = i := fun e' => e e'.symm
      try dsimp only
      rw [if_neg e']
      by_cases e2 : i = p
      · rw [if_pos e2.symm]
        refine h4.inj q j r false _ hq hj (fun e3 => ?_)
        subst e3
        rw [hj] at hq; cases hq
      · rw [if_neg e2] at hp
        have e4 : ¬ p = i := fun e' => e2 e'.symm
        rw [if_neg e4]
        exact h4.inj q p r o r' hq hp hpq
  · have hq : q < w0.n0 := hq
    try dsimp only
    rw [if_neg (by omega)]; exact h4.ext q hq
theorem back_copy {C : Ctx} {I : Act → World → Prop} {fr : List (Nat × SV)} {rows : List (Nat × Bool × SRow)} {nx n : Nat} (i j : Nat) {Φ : Nat → Option Obj → Prop} (hj : get rows j = some (false, .blob Φ)) (hi : Nat.blt i nx = true) (hij : Nat.beq i j = false) (hn0 : C.w0.n0 ≤ i)
    (hno : (mentF i fr || mentR i rows) = false) (h : BackN C I ⟨fr, (i, false, .blob Φ) :: rows, nx, n⟩) : BackN C I ⟨fr, rows, nx, n⟩ := by
  unfold BackN at h ⊢
  intro β a w hs
  exact h _ a w (hs.copy i j hj (by simpa [Nat.blt_eq] using hi) (Nat.ne_of_beq_eq_false hij) hn0 hno)
/-- an argument's slice gets a number -/
theorem loop_learnA {C : Ctx} {c : Code} {k : List It} {fr : List (Nat × SV)} {rows : List (Nat × Bool × SRow)} {nx n : Nat} (a : Option Addr) (xs : List Value) (h0 : 0 < C.base) (hb : C.base = C.w0.w.heap.size) (hA : SlAt a xs C.w0.w)
    (h : LoopN C c k ⟨fr, (nx, false, .blob (SlB a xs)) :: rows, nx + 1, n⟩) : LoopN C c k ⟨fr, rows, nx, n⟩ := by
  unfold LoopN at h ⊢
  intro β act w hs
  have hm := hs.mem
  have hbl : Below C.w0.w.heap.size C.w0.w w := by rw [← hb]; exact hm.below
  have hex : ∃ b, b < C.base ∧ SlB a xs b w.heap[b]? := by
    cases xs with
    | nil => exact ⟨0, h0, fun _ _ i v hi => by simp at hi⟩
    | cons x r =>
      obtain ⟨ad, e, h1, _⟩ := hA 0 x rfl
      refine ⟨ad.block, by omega, fun W hW i v hi => ?_⟩
      obtain ⟨ad', e', h2, h3⟩ := (hA.below hbl) i v hi
      rw [e] at e'
      cases e'
      exact ⟨ad, e, rfl, by rw [World.cell?_of_block (w := w) (by rw [add_block]; exact hW)]; exact h3⟩
  obtain ⟨b, hb1, hb2⟩ := hex
  have hbl2 := hm.base_le
  exact h _ _ _ (hs.learn (o := false) (b := b) (Φ := SlB a xs) (by omega) hb2 (fun e => by cases e) (fun i r hi => by
    have := (hm.row i true r hi).2.2.2 rfl
    omega))
theorem Mem.slB {base : Nat} {w0 : Base} {rows : List (Nat × Bool × SRow)} {nx : Nat} {β : Nat → Nat} {w : World} (hm : Mem base w0 rows nx β w) (j : Nat) {o : Bool} {a : Option Addr} {xs : List Value} (hj : get rows j = some (o, .blob (SlB a xs))) : SlAt a xs w :=
  (hm.row j _ _ hj).1.2.at (hm.row j _ _ hj).1.1
/-- a function that answers with a number as a slice, perhaps one of those that it was given -/
def NatAny (L : List (Option Addr)) (k : IntKind) (b x : Nat) (w : World) (e : Ending) (w' : World) : Prop :=
  ∃ a cap, e = .returned (.slice a (nd b x) cap) ∧ SlAt a (nv k b x) w' ∧ (FreshX a (nv k b x) w ∨ a ∈ L) ∧ (a = none → cap = 0) ∧ nd b x ≤ cap ∧ Below w.heap.size w w'
/-- what is not newly made lies apart from the blocks of one's own -/
def ApartL (C : Ctx) (L : List (Option Addr)) (rows : List (Nat × Bool × SRow)) (nx : Nat) : Prop := ∀ β w, Mem C.base C.w0 rows nx β w → ∀ ad, some ad ∈ L → ∀ i r, get rows i = some (true, r) → β i ≠ ad.block
theorem callNatL {C : Ctx} {d : Nat} {f : FuncId} {args : List SV} {fr : List (Nat × SV)} {rows : List (Nat × Bool × SRow)} {nx n : Nat} {K : St → Prop} (L : List (Option Addr)) (k : IntKind) (b x : Nat) (h0 : 0 < C.base)
    (he : entersB C.P f = true) (hd : Nat.blt d n = true) (hL : ApartL C L rows nx) (hc : ∀ β w, Mem C.base C.w0 rows nx β w → Calls C.P f (SV.dens β args).toArray w (NatAny L k b x w))
    (h : ∀ a cap, (a = none → cap = 0) → nd b x ≤ cap → (0 < nd b x → ∃ ad, a = some ad) → K ⟨(d, .any (.slice a (nd b x) cap)) :: fr, (nx, false, .blob (SlB a (nv k b x))) :: rows, nx + 1, n⟩) : CallX C (some d) f args ⟨fr, rows, nx, n⟩ K := by
  unfold CallX
  refine ⟨he, fun β act w hs => (hc β w hs.mem).mono ?_⟩
  rintro e w' ⟨a, cap, rfl, hsl, hfr, hn, hcap, hb⟩
  have hm := hs.mem
  have hs' : Sat C.base C.w0 ⟨fr, rows, nx, n⟩ β act w' := ⟨hs.defers, hs.size, hs.slot, hm.belowNext hb⟩
  have hbs := hb.size
  have hbl := hm.base_le
  have hex : ∃ q, q < w'.heap.size ∧ SlB a (nv k b x) q w'.heap[q]? ∧ ∀ i r, get rows i = some (true, r) → β i ≠ q := by
    have hsl0 := hsl
    generalize nv k b x = xs at hsl hsl0 hfr
    cases xs with
    | nil => exact ⟨0, by omega, fun _ _ i v hi => by simp at hi, fun i r hi => by have := (hm.row i true r hi).2.2.2 rfl; omega⟩
    | cons y r =>
      obtain ⟨ad, e, h1, _⟩ := hsl 0 y rfl
      refine ⟨ad.block, h1, fun W hW i v hi => ?_, fun i r hi => ?_⟩
      · obtain ⟨ad', e', h2, h3⟩ := hsl i v hi
        rw [e] at e'
        cases e'
        exact ⟨ad, e, rfl, by rw [World.cell?_of_block (w := w') (by rw [add_block]; exact hW)]; exact h3⟩
      · rcases hfr with hfr | hfr
        · have := hfr (by simp) ad e
          have := hm.lt i (hm.row i true r hi).2.2.1
          omega
        · exact hL β w hm ad (by rw [← e]; exact hfr) i r hi
  obtain ⟨q, h2, h3, h4⟩ := hex
  have hs2 := hs'.learn (o := false) h2 h3 (fun e => by cases e) h4
  have hs3 := hs2.put (d := d) (by simpa [Nat.blt_eq] using hd) (v := .any (.slice a (nd b x) cap)) rfl
  exact ⟨_, _, _, rfl, h a cap hn hcap (fun hx => hsl.some (nv_ne hx)), hs3⟩
/-- a slice of one's own is no longer written -/
theorem Sat.share {base : Nat} {w0 : Base} {β : Nat → Nat} {a : Act} {w : World} {fr : List (Nat × SV)} {rows : List (Nat × Bool × SRow)} {nx n : Nat} (i : Nat) {e : TypeId} {sz g m cap : Nat} {xs ys : List Value} (hs : Sat base w0 ⟨fr, rows, nx, n⟩ β a w) (hi : get rows i = some (true, .blob (OwnS e sz g m cap xs)))
    (hp : ∀ (j : Nat) (v : Value), ys[j]? = some v → xs[j]? = some v) : Sat base w0 ⟨fr, (i, false, .blob (SlF base (some ⟨g, 0, none⟩) ys)) :: rows, nx, n⟩ β a w := by
  obtain ⟨h1, h2, h3, h4⟩ := hs
  obtain ⟨k1, -, k3, k4⟩ := h4.row i _ _ hi
  refine ⟨h1, h2, h3, ⟨h4.below, h4.base_le, fun q o r hq => ?_, h4.lt, fun q p r o r' hq hp' hpq => ?_, h4.n0, h4.ext⟩⟩
  · rw [get_cons] at hq
    by_cases e0 : i = q
    · rw [if_pos e0] at hq
      cases hq
      subst e0
      refine ⟨⟨k1.1, fun W hW j v hj => ?_, fun _ => k4 rfl⟩, trivial, k3, fun e => by cases e⟩
      have hg : β i = g := k1.2.1
      have ho : OwnS e sz g m cap xs (β i) W.heap[β i]? := by rw [hW]; exact k1.2
      exact ⟨_, rfl, hg.symm, ho.cell j v (hp j v hj)⟩
    · rw [if_neg e0] at hq
      exact h4.row q o r hq
  · have hq' : get rows q = some (true, r) := by
      rw [get_cons] at hq
      by_cases e0 : i = q
      · rw [if_pos e0] at hq; cases hq
      · rw [if_neg e0] at hq; exact hq
    have hp2 : ∃ o1 r1, get rows p = some (o1, r1) := by
      rw [get_cons] at hp'
      by_cases e0 : i = p
      · subst e0; exact ⟨_, _, hi⟩
      · rw [if_neg e0] at hp'; exact ⟨_, _, hp'⟩
    obtain ⟨o1, r1, hp2⟩ := hp2
    exact h4.inj q p r o1 r1 hq' hp2 hpq
theorem loop_share {C : Ctx} {c : Code} {k : List It} {fr : List (Nat × SV)} {rows : List (Nat × Bool × SRow)} {nx n : Nat} (i : Nat) {e : TypeId} {sz g m cap : Nat} {xs : List Value} (ys : List Value) (hi : get rows i = some (true, .blob (OwnS e sz g m cap xs)))
    (hp : ∀ (j : Nat) (v : Value), ys[j]? = some v → xs[j]? = some v) (h : m ≤ cap → LoopN C c k ⟨fr, (i, false, .blob (SlF C.base (some ⟨g, 0, none⟩) ys)) :: rows, nx, n⟩) : LoopN C c k ⟨fr, rows, nx, n⟩ := by
  unfold LoopN at h ⊢
  intro β a w hs
  have hc : m ≤ cap := by
    obtain ⟨h1, -⟩ := hs.mem.row i _ _ hi
    obtain ⟨-, cur, -, h, -⟩ := h1.2
    exact h
  exact h hc β a w (hs.share i hi hp)
theorem fresh_or {k : IntKind} {b x : Nat} {a : Option Addr} {L : List (Option Addr)} {w : World} (h : 0 < x → a ∈ L) : FreshX a (nv k b x) w ∨ a ∈ L := by
  rcases Nat.eq_zero_or_pos x with rfl | h0
  · exact .inl fun hne => absurd (List.eq_nil_of_length_eq_zero (by rw [nv_len, ExP.nd_zero])) hne
  · exact .inr (h h0)
theorem slL_or {k : IntKind} {b x : Nat} {a : Option Addr} {L : List (Option Addr)} {base q : Nat} (h : 0 < x → a ∈ L) : (nv k b x ≠ [] → base ≤ q) ∨ a ∈ L := by
  rcases Nat.eq_zero_or_pos x with rfl | h0
  · exact .inl fun hne => absurd (List.eq_nil_of_length_eq_zero (by rw [nv_len, ExP.nd_zero])) hne
  · exact .inr (h h0)
/-- an address if what lies there is not nothing -/
def Lz (x : Nat) (a : Option Addr) (L : List (Option Addr)) : List (Option Addr) := if x = 0 then L else a :: L
theorem Lz_in {x : Nat} {a : Option Addr} {L : List (Option Addr)} (h : 0 < x) : a ∈ Lz x a L := by unfold Lz; rw [if_neg (by omega)]; simp
theorem Lz_mem {x : Nat} {a c : Option Addr} {L : List (Option Addr)} (h : c ∈ L) : c ∈ Lz x a L := by unfold Lz; split <;> simp [h]
theorem apart_nil {C : Ctx} {rows : List (Nat × Bool × SRow)} {nx : Nat} : ApartL C [] rows nx := fun _ _ _ _ h => by cases h
theorem apart_row {C : Ctx} {L : List (Option Addr)} {rows : List (Nat × Bool × SRow)} {nx : Nat} {a : Option Addr} {k : IntKind} {b x bs : Nat} (j : Nat) (hb : 2 ≤ b) (hj : get rows j = some (false, .blob (SlF bs a (nv k b x)))) (h : ApartL C L rows nx) : ApartL C (Lz x a L) rows nx := by
  intro β w hm ad hL i r hi
  unfold Lz at hL
  split at hL
  · exact h β w hm ad hL i r hi
  rename_i hx
  rcases List.mem_cons.1 hL with e | hL
  · subst e
    obtain ⟨ad', e1, e2, -⟩ := (hm.row j _ _ hj).1.2.1 w rfl 0 _ (nv_get ((ExP.nd_pos hb).2 (Nat.pos_of_ne_zero hx)))
    cases e1
    rw [e2]
    refine fun e3 => hm.inj i j r _ _ hi hj (fun e => ?_) e3.symm
    subst e
    rw [hi] at hj
    cases hj
  · exact h β w hm ad hL i r hi
theorem apart_old {C : Ctx} {L : List (Option Addr)} {rows : List (Nat × Bool × SRow)} {nx : Nat} {a : Option Addr} {k : IntKind} {b x : Nat} {w0 : World} (hb : 2 ≤ b) (hs : SlAt a (nv k b x) w0) (e : w0.heap.size = C.base) (h : ApartL C L rows nx) : ApartL C (Lz x a L) rows nx := by
  intro β w hm ad hL i r hi
  unfold Lz at hL
  split at hL
  · exact h β w hm ad hL i r hi
  rename_i hx
  rcases List.mem_cons.1 hL with e1 | hL
  · subst e1
    obtain ⟨ad', e1, e2, -⟩ := hs 0 _ (nv_get ((ExP.nd_pos hb).2 (Nat.pos_of_ne_zero hx)))
    cases e1
    have := (hm.row i true r hi).2.2.2 rfl
    omega
  · exact h β w hm ad hL i r hi
end Sym
end Go.Proofs.YtfodbfbljeeojaaGreatDoor
namespace Go.Proofs.YtfodbfbljeeojaaGreatDoor
open Go.RowKit Go.Shelf
attribute [local go_sem] Oper.semAt_some
/-- a limb -/
abbrev Dg := { d : Nat // d < 1000000000 }
/-- what has come when k rounds are over, from the last digit down -/
def downto (D : Nat → Dg) (len k : Nat) : List (Nat × Dg) := (List.range k).map fun j => (len - 1 - j, D (len - 1 - j))
theorem downto_succ (D : Nat → Dg) (len k : Nat) : downto D len (k + 1) = downto D len k ++ [(len - 1 - k, D (len - 1 - k))] := by simp [downto, List.range_succ]
theorem downto_length (D : Nat → Dg) (len k : Nat) : (downto D len k).length = k := by simp [downto]
/-- cells that a round leaves alone -/
def KpB (n₀ Bs : Nat) (W W' : World) : Prop := ∀ (p : Addr) (v : Value), p.block < n₀ ∨ p.block = Bs → W.cell? p = some v → W'.cell? p = some v
theorem KpB.refl (n₀ Bs : Nat) (W : World) : KpB n₀ Bs W W := fun _ _ _ h => h
theorem KpB.trans {n₀ Bs : Nat} {A B C : World} (h : KpB n₀ Bs A B) (k : KpB n₀ Bs B C) : KpB n₀ Bs A C := fun p v hp hv => k p v hp (h p v hp hv)
abbrev encB (x : Nat × Dg) : Array Value := #[.int .i64 (x.1 : Int), .int .u32 (x.2.1 : Int)]
set_option maxRecDepth 100000 in
set_option maxHeartbeats 4000000 in
theorem back1_in (F : Fence) (n : Nat) (h133 : F.fn 133) (hro : F.round = none) (hn : 1 ≤ n) (l Bs n₀ len cap : Nat) (ad : Addr) (D : Nat → Dg) (hreach : len ≤ 100000000) (hb : ad.block < n₀) (J Jx : List (Nat × Dg) → World → Prop)
    (hY : ∀ pre x W, J pre W → pre.length < len → YieldAt F (n - 1) Tryz.prog l (encB x) W fun e W' =>
      (e = .returned (.bool true) ∧ J (pre ++ [x]) W' ∧ KpB n₀ Bs W W') ∨ (e = .returned (.bool false) ∧ Jx (pre ++ [x]) W'))
    (W : World) (hBs : W.cell? ⟨Bs, 0, none⟩ = some (.slice (some ad) len cap)) (hc : ∀ j, j < len → W.cell? (ad.add j) = some (.int .u32 ((D j).1 : Int))) (h0 : J [] W) :
    CallsIn F n Tryz.prog 133 #[.func (.yield l) #[] #[], .pointer (some ⟨Bs, 0, none⟩)] W fun e W' => (∃ v, e = .returned v) ∧
      ((∃ ys, ys = downto D len len ∧ J ys W') ∨ (∃ pre, (∃ k, k ≤ len ∧ pre = downto D len k) ∧ Jx pre W')) := by
  refine callsIn_of_wp Tryz.func133 rfl h133 ?_ hro
  simp only [Tryz.ntmps133, List.size_toArray, List.length_cons, List.length_nil, Nat.reduceAdd, Nat.reduceSub, Array.replicate_succ, Array.replicate_zero, List.push_toArray, List.append_toArray, List.nil_append, List.cons_append]
  gi_wp2
  gi_loopw [3] (fun i wr => ∃ m k : Nat, m + k = len ∧ i = .int .i64 ((m : Int) - 1) ∧ J (downto D len k) wr ∧ KpB n₀ Bs W wr)
    (fun i _ => (intOf i + 1).toNat)
  case atStart => exact ⟨len, 0, rfl, rfl, h0, KpB.refl _ _ _⟩
  case round =>
    obtain ⟨m, k, hk, rfl, hJs, hnx⟩ := hrel
    have hcB := hnx _ _ (.inr rfl) hBs
    cases m with
    | zero =>
      obtain rfl : k = len := by omega
      gi_wp2
      go_end0
      exact ⟨⟨_, rfl⟩, .inl ⟨_, rfl, hJs⟩⟩
    | succ m =>
      have e0 : ((m + 1 : Nat) : Int) - 1 = (m : Int) := by omega
      rw [e0]
      have e1 : len - 1 - k = m := by omega
      have hlt : m < len := by omega
      have hcx := hnx _ _ (.inl (by rw [Sym.add_block]; exact hb)) (hc m (by omega))
      obtain ⟨fn, tmps, assign, body, hy, hR⟩ := hY _ (m, D m) wr hJs (by rw [downto_length]; omega)
      dsimp only [encB] at hy
      gi_wp2
      refine hR.mono ?_
      rintro e W3 (⟨rfl, hJ3, hk3⟩ | ⟨rfl, hJx3⟩)
      · gi_wp2
        go_roundw
        case rel => exact ⟨m, k + 1, by omega, by simp, by rw [downto_succ, e1]; exact hJ3, hnx.trans hk3⟩
        case measure => simp [intOf]
      · gi_wp2
        refine bodyPost_ret (results_none rfl _ _ _) rfl ?_
        exact ⟨⟨_, rfl⟩, .inr ⟨_, ⟨k + 1, by omega, by rw [downto_succ, e1]⟩, hJx3⟩⟩
set_option maxHeartbeats 1000000 in
theorem back_in (F : Fence) (n : Nat) (h : F.fn 113) (hro : F.round = none) (a : Option Addr) (len cap : Nat) (w : World) :
    CallsIn F n Tryz.prog 113 #[.slice a len cap] w fun e w' => e = .returned (.func (.func 133) #[] #[.pointer (some ⟨w.heap.size, 0, none⟩)]) ∧ w' = w.alloc (.cells #[.slice a len cap] 67) := by
  refine callsIn_of_wp Tryz.func113 rfl h ?_ hro
  simp only [Tryz.ntmps113, List.size_toArray, List.length_cons, List.length_nil, Nat.reduceAdd, Nat.reduceSub, Array.replicate_succ, Array.replicate_zero, List.push_toArray, List.append_toArray, List.nil_append, List.cons_append]
  gi_wp2
  go_ret
  exact ⟨rfl, rfl⟩
theorem back_stops (F : Fence) (n : Nat) (h133 : F.fn 133) (hro : F.round = none) (hn : 1 ≤ n) (Bs n₀ len cap : Nat) (ad : Addr) (D : Nat → Dg) (hreach : len ≤ 100000000) (w : World) (hBw : Bs < w.heap.size) (hn₀ : n₀ ≤ w.heap.size) (hb : ad.block < n₀)
    (hBs : w.cell? ⟨Bs, 0, none⟩ = some (.slice (some ad) len cap)) (hc : ∀ j, j < len → w.cell? (ad.add j) = some (.int .u32 ((D j).1 : Int))) :
    SeqStopsK F n Tryz.prog 133 #[.pointer (some ⟨Bs, 0, none⟩)] encB (KpB n₀ Bs) (fun ys => ys = downto D len len) (fun pre => ∃ k, k ≤ len ∧ pre = downto D len k) len w := fun l J Jx W hW _ _ hY h0 =>
  back1_in F n h133 hro hn l Bs n₀ len cap ad D hreach hb J Jx hY W ((hW.cell (p := ⟨Bs, 0, none⟩) hBw).trans hBs) (fun j hj => (hW.cell (p := ad.add j) (by rw [Sym.add_block]; exact Nat.lt_of_lt_of_le hb hn₀)).trans (hc j hj)) h0
end Go.Proofs.YtfodbfbljeeojaaGreatDoor
