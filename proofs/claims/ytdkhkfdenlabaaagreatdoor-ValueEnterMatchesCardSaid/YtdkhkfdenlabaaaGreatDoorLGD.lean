/- A walk that reckons: numbers as slices of digits. Products, quotients, halves and common divisors, digit by di Numbers held against each other; rows of digits. Numbers as texts. Fractions. Square roots; fractions written and read again; comparisons. Values, plainly: what is written of a fraction depends on it Decimal numbers read. -/
import Derived.Test.YtdkhkfdenlabaaaGreatDoorLGC
import Derived.Lib.ItoaNum
set_option linter.unusedSimpArgs false
set_option linter.unusedVariables false
set_option maxRecDepth 100000
set_option maxHeartbeats 64000000
namespace Go.Proofs.YtdkhkfdenlabaaaGreatDoor
open Go.RowKit
namespace Sym
open ExP (nd dig dg dgN tab)
def valsK (k : IntKind) (l : List Nat) : List Value := l.map fun (d : Nat) => Value.int k (d : Int)
theorem valsK_len (k : IntKind) (l : List Nat) : (valsK k l).length = l.length := by simp [valsK]
theorem valsK_get {k : IntKind} {l : List Nat} {i d : Nat} (h : l[i]? = some d) : (valsK k l)[i]? = some (.int k (d : Int)) := by simp [valsK, h]
theorem valsK_append (k : IntKind) (l m : List Nat) : valsK k (l ++ m) = valsK k l ++ valsK k m := by simp [valsK]
theorem valsK_set (k : IntKind) (l : List Nat) (i d : Nat) : (valsK k l).set i (.int k (d : Int)) = valsK k (l.set i d) := by simp [valsK, List.map_set]
theorem valsK_one (k : IntKind) (l : List Nat) : ∀ u ∈ valsK k l, u.oneCell' = true := by
 intro u hu
 simp only [valsK, List.mem_map] at hu
 obtain ⟨d, -, rfl⟩ := hu
 rfl
abbrev nv (k : IntKind) (b x : Nat) : List Value := valsK k (dg b x)
theorem nv_len (k : IntKind) (b x : Nat) : (nv k b x).length = nd b x := by rw [valsK_len, ExP.dg_len]
theorem nv_get {k : IntKind} {b x i : Nat} (h : i < nd b x) : (nv k b x)[i]? = some (.int k (dig b i x : Nat)) := valsK_get (ExP.dgN_get _ _ _ _ h)
theorem nv_ne {k : IntKind} {b x : Nat} (h : 0 < nd b x) : nv k b x ≠ [] := fun e => by have := nv_len k b x; rw [e] at this; simp at this; omega
theorem sl_pre {a : Option Addr} {xs ys : List Value} {w : World} (h : SlAt a xs w) (hp : ∀ (i : Nat) (v : Value), ys[i]? = some v → xs[i]? = some v) : SlAt a ys w := fun i v hv => h i v (hp i v hv)
theorem sl_read {ad : Addr} {xs : List Value} {w : World} (h : SlAt (some ad) xs w) {i : Nat} {v : Value} (hv : xs[i]? = some v) : ∀ w', Below w.heap.size w w' → w'.cell? (ad.add i) = some v := fun w' hb => by
 obtain ⟨a', e, _, hc⟩ := (h.below hb) i v hv
 cases e; exact hc
theorem sl_nil (a : Option Addr) (w : World) : SlAt a [] w := fun i v h => by simp at h
theorem dgN_pre {b n m x : Nat} (h : m ≤ n) (k : IntKind) : ∀ (i : Nat) (v : Value), (valsK k (dgN b m x))[i]? = some v → (valsK k (dgN b n x))[i]? = some v := fun i v hv => by
 have hi : i < m := by have := (List.getElem?_eq_some_iff.1 hv).1; rw [valsK_len, ExP.dgN_len] at this; exact this
 rw [valsK_get (ExP.dgN_get _ _ _ _ hi)] at hv
 rw [valsK_get (ExP.dgN_get _ _ _ _ (by omega)), hv]
def NatOut (k : IntKind) (b x : Nat) (w : World) (e : Ending) (w' : World) : Prop :=
 ∃ a cap, e = .returned (.slice a (nd b x) cap) ∧ SlAt a (nv k b x) w' ∧ FreshX a (nv k b x) w ∧ (a = none → cap = 0) ∧ nd b x ≤ cap ∧ Below w.heap.size w w'
def NatOut2 (k : IntKind) (b x y : Nat) (w : World) (e : Ending) (w' : World) : Prop :=
 ∃ a cap a2 cap2, e = .returned (.tuple #[.slice a (nd b x) cap, .slice a2 (nd b y) cap2]) ∧ (SlAt a (nv k b x) w' ∧ FreshX a (nv k b x) w ∧ (a = none → cap = 0) ∧ nd b x ≤ cap) ∧ (SlAt a2 (nv k b y) w' ∧ FreshX a2 (nv k b y) w ∧ (a2 = none → cap2 = 0) ∧ nd b y ≤ cap2) ∧ Below w.heap.size w w'
theorem Mem.slF {base : Nat} {w0 : Base} {rows : List (Nat × Bool × SRow)} {nx : Nat} {β : Nat → Nat} {w : World} (hm : Mem base w0 rows nx β w) (j : Nat) {o : Bool} {bs : Nat} {a : Option Addr} {xs : List Value} (hj : get rows j = some (o, .blob (SlF bs a xs))) : SlAt a xs w :=
 (hm.row j _ _ hj).1.2.at (hm.row j _ _ hj).1.1
theorem Mem.freshF {base : Nat} {w0 : Base} {rows : List (Nat × Bool × SRow)} {nx : Nat} {β : Nat → Nat} {w W : World} (hm : Mem base w0 rows nx β w) (j : Nat) {o : Bool} {a : Option Addr} {xs : List Value} (hj : get rows j = some (o, .blob (SlF base a xs))) (e : W.heap.size = base) : FreshX a xs W :=
 (hm.row j _ _ hj).1.2.fresh e
theorem Mem.own {base : Nat} {w0 : Base} {rows : List (Nat × Bool × SRow)} {nx : Nat} {β : Nat → Nat} {w : World} (hm : Mem base w0 rows nx β w) (j : Nat) {e : TypeId} {sz g n cap : Nat} {xs : List Value} (hj : get rows j = some (true, .blob (OwnS e sz g n cap xs))) :
  SlAt (some ⟨g, 0, none⟩) xs w ∧ base ≤ g ∧ n ≤ cap := by
 obtain ⟨h1, -, -, h4⟩ := hm.row j _ _ hj
 refine ⟨h1.2.slAt h1.1, by rw [← h1.2.1]; exact h4 rfl, ?_⟩
 obtain ⟨-, cur, -, h, -⟩ := h1.2
 exact h
theorem fresh_own {g : Nat} {xs : List Value} {W : World} {base : Nat} (h : base ≤ g) (e : W.heap.size = base) : FreshX (some ⟨g, 0, none⟩) xs W := fun _ ad h' => by cases h'; dsimp only; omega
theorem callNat {C : Ctx} {d : Nat} {f : FuncId} {args : List SV} {fr : List (Nat × SV)} {rows : List (Nat × Bool × SRow)} {nx n : Nat} {K : St → Prop} (k : IntKind) (b x : Nat) (h0 : 0 < C.base)
  (he : entersB C.P f = true) (hd : Nat.blt d n = true) (hc : ∀ β w, Mem C.base C.w0 rows nx β w → Calls C.P f (SV.dens β args).toArray w (NatOut k b x w))
  (h : ∀ a cap, (a = none → cap = 0) → nd b x ≤ cap → (0 < nd b x → ∃ ad, a = some ad) → K ⟨(d, .any (.slice a (nd b x) cap)) :: fr, (nx, false, .blob (SlF C.base a (nv k b x))) :: rows, nx + 1, n⟩) : CallX C (some d) f args ⟨fr, rows, nx, n⟩ K :=
 callSlF (T := {t : Option Addr × Nat // (t.1 = none → t.2 = 0) ∧ nd b x ≤ t.2}) (fun t => .any (.slice t.1.1 (nd b x) t.1.2)) (fun t => t.1.1) (fun _ => nv k b x) h0 he hd (fun _ => rfl)
  (fun β w hm => (hc β w hm).mono fun e w' ⟨a, cap, he, h1, h2, h3, h4, h5⟩ => ⟨h5, ⟨(a, cap), h3, h4⟩, he, h1, h2⟩)
  (fun t hs => h t.1.1 t.1.2 t.2.1 t.2.2 (fun hn => hs (nv_ne hn)))
theorem callNat2 {C : Ctx} {d : Nat} {f : FuncId} {args : List SV} {fr : List (Nat × SV)} {rows : List (Nat × Bool × SRow)} {nx n : Nat} {K : St → Prop} (k : IntKind) (b x y : Nat) (h0 : 0 < C.base)
  (he : entersB C.P f = true) (hd : Nat.blt d n = true) (hc : ∀ β w, Mem C.base C.w0 rows nx β w → Calls C.P f (SV.dens β args).toArray w (NatOut2 k b x y w))
  (h : ∀ a cap a2 cap2, (a = none → cap = 0) → nd b x ≤ cap → (0 < nd b x → ∃ ad, a = some ad) → (a2 = none → cap2 = 0) → nd b y ≤ cap2 → (0 < nd b y → ∃ ad, a2 = some ad) →
   K ⟨(d, .tup [.any (.slice a (nd b x) cap), .any (.slice a2 (nd b y) cap2)]) :: fr, (nx + 1, false, .blob (SlF C.base a2 (nv k b y))) :: (nx, false, .blob (SlF C.base a (nv k b x))) :: rows, nx + 1 + 1, n⟩) : CallX C (some d) f args ⟨fr, rows, nx, n⟩ K :=
 callSlF2 (T := {t : (Option Addr × Nat) × (Option Addr × Nat) // ((t.1.1 = none → t.1.2 = 0) ∧ nd b x ≤ t.1.2) ∧ ((t.2.1 = none → t.2.2 = 0) ∧ nd b y ≤ t.2.2)}) (fun t => .tup [.any (.slice t.1.1.1 (nd b x) t.1.1.2), .any (.slice t.1.2.1 (nd b y) t.1.2.2)]) (fun t => t.1.1.1) (fun t => t.1.2.1) (fun _ => nv k b x) (fun _ => nv k b y) h0 he hd (fun _ => ⟨rfl, rfl, trivial⟩)
  (fun β w hm => (hc β w hm).mono fun e w' ⟨a, cap, a2, cap2, he, ⟨h1, h2, h3, h4⟩, ⟨g1, g2, g3, g4⟩, h5⟩ => ⟨h5, ⟨((a, cap), (a2, cap2)), ⟨h3, h4⟩, ⟨g3, g4⟩⟩, he, ⟨h1, h2⟩, ⟨g1, g2⟩⟩)
  (fun t hs hs2 => h t.1.1.1 t.1.1.2 t.1.2.1 t.1.2.2 t.2.1.1 t.2.1.2 (fun hn => hs (nv_ne hn)) t.2.2.1 t.2.2.2 (fun hn => hs2 (nv_ne hn)))
theorem x_loadF {C : Ctx} {G : Blobs} {x : Operand} {t : TypeId} {a : Addr} {j bs : Nat} {xs : List Value} (i : Nat) (v : SV) (hag : ∀ w, (isAgg t).run C.P w = .ok false w) (ri : G i = some (SlF bs (some a) xs)) (hv : ∀ β, xs[j]? = some (v.den β)) :
  ExtN C G (.load t x) [.any (.pointer (some (a.add j)))] v := by
 unfold ExtN
 intro ρ β w dst ty pos after gd _ hG h
 have e1 : ρ x = .pointer (some (a.add j)) := by simpa [opsX, SV.dens, SV.den] using h
 obtain ⟨h1, h2, -⟩ := hG i _ ri
 obtain ⟨ad, e, _, hc⟩ := h2 w rfl j _ (hv β)
 cases e
 simp [execOp, Instr.loadAt, Instr.sureAddr, e1, loadVar, hag, hc]
theorem opx_appendW {C : Ctx} {d : Nat} {ty : TypeId} {pos : String} {after : Array Edge} {gd : Option (Nat × Bool)} {fr : List (Nat × SV)} {rows : List (Nat × Bool × SRow)} {nx n : Nat} {K : St → Prop}
  {x y : Operand} {t e : TypeId} {sz : Nat} (i : Nat) {g n1 cap1 m c2 : Nat} {y0 : Option Addr} {xs ys : List Value} {inf : TypeInfo} {z : Value} (hd : Nat.blt d n = true)
  (ht : C.P.underlying t = some (.slice e)) (hi : C.P.info? e = some inf) (hz : inf.zero = some z) (hsize : inf.size = sz) (hzs : z.cells.size = sz) (h0 : 0 < sz)
  (hx : ev fr x = some (.any (.slice (some ⟨g, 0, none⟩) n1 cap1))) (hy : ev fr y = some (.any (.slice y0 m c2)))
  (ri : get rows i = some (true, .blob (OwnS e sz g n1 cap1 xs))) (hyn : y0 = none → c2 = 0) (hyl : ys.length = m * sz) (hys : ∀ β w, Mem C.base C.w0 rows nx β w → SlAt y0 ys w)
  (h63 : n1 + m ≤ maxLen) (hbytes : (n1 + m) * inf.bytes ≤ 140737488355328) (h1 : ∀ u ∈ ys, u.oneCell' = true) (hno : (mentF i fr || mentR i rows) = false) (hni : C.w0.n0 ≤ i)
  (h : ∀ g' cap', K ⟨(d, .any (.slice (some ⟨g', 0, none⟩) (n1 + m) cap')) :: fr, (i, true, .blob (OwnS e sz g' (n1 + m) cap' (xs ++ ys))) :: rows, nx, n⟩) :
  OpX C ⟨some d, .call ⟨.builtin .append, ⟨[x, y]⟩, ⟨[t, t]⟩⟩, ty, pos, after, gd⟩ ⟨fr, rows, nx, n⟩ K := by
 unfold OpX
 intro β a w hs next Q hnn0
 have hm := hs.mem
 obtain ⟨qi, -, qi3, qi4⟩ := hm.row i _ _ ri
 have qi3 : i < nx := qi3
 have hown := OwnS.owns qi.2 (qi4 rfl)
 have hg : β i = g := qi.2.1
 have hyw := hys β w hm
 have e1 := (ev_sound hs hx).1
 have e2 := (ev_sound hs hy).1
 have key : ∃ v' w', (Builtin.append_ #[t, t] ty #[.slice (some ⟨g, 0, none⟩) n1 cap1, .slice y0 m c2]).run C.P w = .ok v' w' ∧ w'.ownsRow C.base e sz v' (n1 + m) (xs ++ ys) ∧ w.grownBy w' (some g) ∧ v' ≠ .slice none 0 0 ∧ (v'.ownBlock = some g ∨ v'.ownBlock = some w.heap.size) := by
  cases y0 with
  | none =>
    have hc2 := hyn rfl
    have hys0 : ys = [] := by
     cases ys with
     | nil => rfl
     | cons u r => obtain ⟨ad, e0, -⟩ := hyw 0 u rfl; cases e0
    subst hys0
    have hm0 : m = 0 := by
     rcases Nat.eq_zero_or_pos m with h' | h'
     ·exact h'
     ·have := Nat.mul_pos h' h0; simp at hyl; omega
    subst hm0 hc2
    have hr := run_append_owned_none (P := C.P) (w := w) C.base t ty e inf sz ht hi _ n1 xs hown
    refine ⟨_, w, hr, by simpa using hown, ⟨rfl, rfl, rfl, Nat.le_refl _, fun k _ _ => rfl⟩, by simp, .inl rfl⟩
  | some ad =>
    obtain ⟨v', w', hr, h2, h3, h4, h5⟩ := run_append_own_at (P := C.P) w C.base t ty e inf z sz inf.bytes ht hi hz hsize rfl hzs h0 _ n1 xs hown ad m c2 ys hyl (fun j u hj => by obtain ⟨ad', e0, -, hc⟩ := hyw j u hj; cases e0; exact hc) h1 h63 hbytes hm.base_le
    exact ⟨v', w', hr, h2, h3, (fun e0 => by have := (h4.1 e0).1; cases this), h5⟩
 obtain ⟨v', w', hr, h2, h3, hnn, h5⟩ := key
 obtain ⟨hlen, hor⟩ := h2
 rcases hor with ⟨e0, e1⟩ | ⟨g', cap', cur, rfl, hb', hc', hn', hm', hs', ht'⟩
 ·exact absurd e0 hnn
 have hblk : g' = g ∨ g' = w.heap.size := by simpa [Value.ownBlock] using h5
 unfold Oper.wp
 have hrun : (execOp a.eval ⟨some d, .call ⟨.builtin .append, ⟨[x, y]⟩, ⟨[t, t]⟩⟩, ty, pos, after, gd⟩).run C.P w = .ok (.value (.slice (some ⟨g', 0, none⟩) (n1 + m) cap')) w' := by
  unfold execOp
  simp only [resolve, invoke, builtin, Sem.run_bind, Sem.run_pure, Result.andThen_ok, List.map_toArray, List.map_cons, List.map_nil, e1, e2, SV.den, hr]
 rw [hrun]
 have hgs : g < w.heap.size := by rw [← hg]; exact qi.1
 have hsz' : g' < w'.heap.size := by
  rcases Nat.lt_or_ge g' w'.heap.size with h0 | h0
  ·exact h0
  ·rw [Array.getElem?_eq_none h0] at hc'; cases hc'
 have hbg : C.base ≤ g := by rw [← hg]; exact qi4 rfl
 simp only [Bool.or_eq_false_iff] at hno
 have hβ : ∀ q, q ≠ i → (fun q => if q = i then g' else β q) q = β q := fun q hq => by dsimp only; rw [if_neg hq]
 have hapart : ∀ q o r, get rows q = some (o, r) → q ≠ i → β q ≠ g := fun q o r hq hne => by rw [← hg]; exact hm.inj i q _ o r ri hq hne
 have hother : ∀ p o r', get rows p = some (o, r') → p ≠ i → β p ≠ g' := fun p o r' hp hpi => by
  rcases hblk with e0 | e0
  ·rw [e0]; exact hapart p o r' hp hpi
  ·have := hm.lt p (hm.row p o r' hp).2.2.1; omega
 have hs2 : Sat C.base C.w0 ⟨fr, (i, true, .blob (OwnS e sz g' (n1 + m) cap' (xs ++ ys))) :: rows, nx, n⟩ (fun q => if q = i then g' else β q) a w' := by
  refine ⟨hs.defers, hs.size, fun s v hv => ?_, ⟨hm.below.os ▸ h3.os, hm.below.tape ▸ h3.tape, hm.below.output ▸ h3.output, Nat.le_trans hm.below.size h3.size, fun q hq => ?_⟩, Nat.le_trans hm.base_le h3.size, fun q o r hq => ?_, fun q hq => ?_, fun q p r o r' hq hp hpq => ?_, hm.n0, fun q hq => ?_⟩
  ·obtain ⟨k1, k2⟩ := hs.slot s v hv
   exact ⟨by rw [k1, ment_den hβ v (mentF_get fr hno.1 hv)], k2⟩
  ·rw [h3.block q (Nat.lt_of_lt_of_le hq hm.base_le) (by simp; omega)]; exact hm.below.block q hq
  ·rw [get_cons] at hq
   by_cases e0 : i = q
   ·rw [if_pos e0] at hq
    cases hq
    subst e0
    dsimp only
    rw [if_pos rfl]
    exact ⟨⟨hsz', rfl, cur, hc', hn', hm', hs', ht', hlen⟩, trivial, qi3, fun _ => hb'⟩
   ·rw [if_neg e0] at hq
    obtain ⟨k1, k2, k3, k4⟩ := hm.row q o r hq
    have hqi : q ≠ i := fun e => e0 e.symm
    dsimp only
    rw [if_neg hqi]
    have k5 := RowIs_block (h3.block _ (hm.lt q k3) (by simp; exact hapart q o r hq hqi)) h3.size k1
    refine ⟨?_, k2, k3, k4⟩
    cases r with
    | cells t' cs => simp only [RowIs] at k5 ⊢; rw [ments_den hβ cs (mentR_get rows hno.2 hq)]; exact k5
    | blob Φ => exact k5
  ·have hq : q < nx := hq
   by_cases e0 : q = i
   ·rw [if_pos e0]; exact hsz'
   ·rw [if_neg e0]; exact Nat.lt_of_lt_of_le (hm.lt q hq) h3.size
  ·rw [get_cons] at hq hp
   by_cases e0 : i = q
   ·rw [if_neg (by omega)] at hp
    rw [if_pos e0.symm, if_neg (by omega)]
    exact hother p o r' hp (by omega)
   ·rw [if_neg e0] at hq
    rw [if_neg (by omega : ¬ q = i)]
    by_cases e2 : i = p
    ·rw [if_pos e2.symm]; exact fun e3 => hother q _ _ hq (by omega) e3.symm
    ·rw [if_neg e2] at hp
     rw [if_neg (by omega)]
     exact hm.inj q p r o r' hq hp hpq
  ·rw [if_neg (by omega)]; exact hm.ext q hq
 have hs3 := hs2.put (d := d) (by simpa [Nat.blt_eq] using hd) (v := .any (.slice (some ⟨g', 0, none⟩) (n1 + m) cap')) rfl
 exact hnn0 _ _ _ _ (h g' cap') hs3
end Sym
end Go.Proofs.YtdkhkfdenlabaaaGreatDoor
namespace Go.Proofs.YtdkhkfdenlabaaaGreatDoor
namespace ExP
theorem upd_lt {b V j d N : Nat} (hb : 0 < b) (hd : d < b) (hj : j < N) (hV : V < b ^ N) : upd b V j d < b ^ N := by
 unfold upd
 have h1 : V % b ^ j + d * b ^ j < b ^ (j + 1) := snoc_lt (Nat.mod_lt _ (Nat.pow_pos hb)) hd
 have e : b ^ N = b ^ (N - (j + 1)) * b ^ (j + 1) := by rw [← Nat.pow_add]; congr 1; omega
 have h2 : V / b ^ (j + 1) < b ^ (N - (j + 1)) := Nat.div_lt_of_lt_mul (by rw [Nat.mul_comm, ← e]; exact hV)
 have h3 := Nat.mul_le_mul_right (b ^ (j + 1)) (Nat.succ_le_of_lt h2)
 rw [Nat.succ_mul, ← e] at h3
 omega
theorem upd_zero {b V j d : Nat} (h : V < b ^ j) : upd b V j d = V + d * b ^ j := by
 have := upd_eq b V j d
 rw [dig_zero h] at this
 omega
structure TimesI (b x y lb i k c V : Nat) : Prop where
 eq : V + c * b ^ (i + k) = (x % b ^ i) * y + dig b i x * b ^ i * (y % b ^ k)
 lt : V < b ^ (i + lb)
 bit : c < b
theorem times_next {b x y lb i k c V n : Nat} (hb : 2 ≤ b) (h : TimesI b x y lb i k c V) (hk : k < lb) (hn : n = dig b i x * dig b k y + dig b (i + k) V + c) : TimesI b x y lb i (k + 1) (n / b) (upd b V (i + k) (n % b)) := by
 obtain ⟨h1, h2, h3⟩ := h
 refine ⟨?_, upd_lt (by omega) (Nat.mod_lt _ (by omega)) (by omega) h2, ?_⟩
 ·have e := upd_eq b V (i + k) (n % b)
  have e1 := Nat.mod_add_div n b
  generalize upd b V (i + k) (n % b) = V' at *
  rw [mod_next]
  have e2 := congrArg (· * b ^ (i + k)) e1
  rw [Nat.add_mul] at e2
  rw [← Nat.add_assoc i k 1, Nat.pow_succ, Nat.mul_add (dig b i x * b ^ i)]
  have e3 : n / b * (b ^ (i + k) * b) = b * (n / b) * b ^ (i + k) := by simp [Nat.mul_comm, Nat.mul_left_comm, Nat.mul_assoc]
  have e4 : dig b i x * b ^ i * (dig b k y * b ^ k) = dig b i x * dig b k y * b ^ (i + k) := by rw [Nat.pow_add]; simp [Nat.mul_comm, Nat.mul_left_comm, Nat.mul_assoc]
  rw [e3, e4]
  rw [hn, Nat.add_mul, Nat.add_mul, ← hn] at e2
  omega
 ·have hx := dig_lt (by omega : 0 < b) i x
  have hy := dig_lt (by omega : 0 < b) k y
  have hv := dig_lt (by omega : 0 < b) (i + k) V
  obtain ⟨p, rfl⟩ : ∃ p, b = p + 1 := ⟨b - 1, by omega⟩
  have h4 : dig (p + 1) i x * dig (p + 1) k y ≤ p * p := Nat.mul_le_mul (by omega) (by omega)
  rw [Nat.div_lt_iff_lt_mul (by omega)]
  rw [hn, Nat.add_mul, Nat.mul_add]
  omega
theorem times_row {b x y lb i c V : Nat} (hb : 2 ≤ b) (h : TimesI b x y lb i lb c V) (hy : y < b ^ lb) : upd b V (i + lb) c = (x % b ^ (i + 1)) * y ∧ TimesI b x y lb (i + 1) 0 0 (upd b V (i + lb) c) := by
 obtain ⟨h1, h2, h3⟩ := h
 have e : upd b V (i + lb) c = (x % b ^ (i + 1)) * y := by
  rw [upd_zero h2, h1, Nat.mod_eq_of_lt hy, mod_next, Nat.add_mul]
 refine ⟨e, ?_⟩
 rw [e]
 refine ⟨by simp [Nat.mod_one], ?_, by omega⟩
 have : x % b ^ (i + 1) < b ^ (i + 1) := Nat.mod_lt _ (Nat.pow_pos (by omega))
 rw [Nat.pow_add b (i + 1) lb]
 exact Nat.mul_lt_mul'' this hy
theorem times_start {b x y lb : Nat} (hb : 2 ≤ b) : TimesI b x y lb 0 0 0 0 := ⟨by simp [Nat.mod_one], Nat.pow_pos (by omega), by omega⟩
def mixP (b x y i j : Nat) : Nat := dig b j ((x % b ^ i) * y) + if i ≤ j then dig b i x * dig b (j - i) y else 0
structure CarryI (b x y i k c S : Nat) : Prop where
 eq : S + c * b ^ k = ((x % b ^ i) * y) % b ^ k + dig b i x * b ^ i * (y % b ^ (k - i))
 lt : S < b ^ k
theorem carry_start {b x y i : Nat} (hb : 2 ≤ b) : CarryI b x y i i 0 (((x % b ^ i) * y) % b ^ i) := ⟨by simp [Nat.mod_one], Nat.mod_lt _ (Nat.pow_pos (by omega))⟩
theorem carry_next {b x y i k c S d : Nat} (hb : 2 ≤ b) (h : CarryI b x y i k c S) (hk : i ≤ k) (hd : d = mixP b x y i k + c) : CarryI b x y i (k + 1) (d / b) (S + d % b * b ^ k) := by
 obtain ⟨h1, h2⟩ := h
 refine ⟨?_, snoc_lt h2 (Nat.mod_lt _ (by omega))⟩
 have e1 := Nat.mod_add_div d b
 have e2 := congrArg (· * b ^ k) e1
 rw [Nat.add_mul] at e2
 have ek : k + 1 - i = (k - i) + 1 := by omega
 rw [mod_next, ek, mod_next, Nat.mul_add (dig b i x * b ^ i), Nat.pow_succ]
 have e3 : d / b * (b ^ k * b) = b * (d / b) * b ^ k := by simp [Nat.mul_comm, Nat.mul_left_comm, Nat.mul_assoc]
 have e4 : dig b i x * b ^ i * (dig b (k - i) y * b ^ (k - i)) = dig b i x * dig b (k - i) y * b ^ k := by
  have : b ^ k = b ^ i * b ^ (k - i) := by rw [← Nat.pow_add]; congr 1; omega
  rw [this]; simp [Nat.mul_comm, Nat.mul_left_comm, Nat.mul_assoc]
 rw [e3, e4]
 unfold mixP at hd
 rw [if_pos hk] at hd
 have e5 : d * b ^ k = dig b k (x % b ^ i * y) * b ^ k + dig b i x * dig b (k - i) y * b ^ k + c * b ^ k := by rw [hd, Nat.add_mul, Nat.add_mul]
 omega
theorem carry_end {b x y i N c S : Nat} (hb : 2 ≤ b) (h : CarryI b x y i N c S) (hN : (x % b ^ (i + 1)) * y < b ^ N) (hi : i ≤ N) (hy : y < b ^ (N - i)) : S = (x % b ^ (i + 1)) * y ∧ c = 0 := by
 obtain ⟨h1, h2⟩ := h
 have hm : (x % b ^ i) * y ≤ (x % b ^ (i + 1)) * y := Nat.mul_le_mul_right _ (by rw [mod_next]; omega)
 rw [Nat.mod_eq_of_lt (by omega : (x % b ^ i) * y < b ^ N), Nat.mod_eq_of_lt hy, ← Nat.add_mul, ← mod_next] at h1
 have hc : c = 0 := by
  rcases Nat.eq_zero_or_pos c with h0 | h0
  ·exact h0
  ·have := Nat.le_mul_of_pos_left (b ^ N) h0; omega
 subst hc
 omega
theorem cons_dg {b r d : Nat} (hb : 0 < b) (hd : d < b) (n : Nat) : dgN b (n + 1) (d + r * b) = d :: dgN b n r := by
 apply List.ext_getElem?
 intro i
 have hl : d < b ^ 1 := by simpa using hd
 have e : ∀ k, dig b k (d + r * b) = if k < 1 then dig b k d else dig b (k - 1) r := fun k => by have := dig_add hb hl (m := r) k; simpa using this
 cases i with
 | zero =>
   rw [dgN_get _ _ _ _ (by omega), e, if_pos (by omega)]
   simp [dig, Nat.mod_eq_of_lt hd]
 | succ i =>
   rw [List.getElem?_cons_succ]
   by_cases h : i < n
   ·rw [dgN_get _ _ _ _ (by omega), dgN_get _ _ _ _ h, e, if_neg (by omega)]; rfl
   ·rw [List.getElem?_eq_none (by rw [dgN_len]; omega), List.getElem?_eq_none (by rw [dgN_len]; omega)]
theorem cons_lt {b r d n : Nat} (hd : d < b) (hr : r < b ^ n) : d + r * b < b ^ (n + 1) := by
 rw [Nat.pow_succ]
 have := Nat.mul_le_mul_right b (Nat.succ_le_of_lt hr)
 rw [Nat.succ_mul] at this
 omega
theorem div_pow (b x i : Nat) : x / b ^ i = x / b ^ (i + 1) * b + dig b i x := by
 unfold dig
 have := Nat.div_add_mod (x / b ^ i) b
 rw [Nat.div_div_eq_div_mul, ← Nat.pow_succ, Nat.mul_comm, Nat.succ_eq_add_one] at this
 omega
theorem div_step {m X X1 b d : Nat} (h : X = X1 * b + d) : X / m = X1 / m * b + (d + X1 % m * b) / m ∧ X % m = (d + X1 % m * b) % m := by
 have e : X = (d + X1 % m * b) + X1 / m * b * m := by
  have := Nat.div_add_mod X1 m
  have e2 := congrArg (· * b) this
  rw [Nat.add_mul] at e2
  have : X1 / m * b * m = m * (X1 / m) * b := by simp [Nat.mul_comm, Nat.mul_left_comm, Nat.mul_assoc]
  omega
 rcases Nat.eq_zero_or_pos m with h0 | h0
 ·subst h0; simp; rw [h]; omega
 ·constructor
  ·rw [e, Nat.add_mul_div_right _ _ h0]; omega
  ·rw [e, Nat.add_mul_mod_self_right]
theorem quot_lt {m r b d : Nat} (hr : r < m) (hd : d < b) : (d + r * b) / m < b := by
 rw [Nat.div_lt_iff_lt_mul (by omega)]
 have := Nat.mul_le_mul_right b (Nat.succ_le_of_lt hr)
 rw [Nat.succ_mul] at this
 rw [Nat.mul_comm b m]
 omega
structure DivI (b x m i V r : Nat) : Prop where
 v : V = x / b ^ i / m * b ^ i
 r : r = x / b ^ i % m
theorem div_start {b x m N : Nat} (h : x < b ^ N) : DivI b x m N 0 0 := ⟨by rw [Nat.div_eq_of_lt h]; simp, by rw [Nat.div_eq_of_lt h]; simp⟩
theorem mul_pow_dig {b Q i : Nat} (hb : 2 ≤ b) : dig b i (Q * b ^ (i + 1)) = 0 := by
 unfold dig
 rw [Nat.pow_succ, ← Nat.mul_assoc, Nat.mul_right_comm, Nat.mul_div_cancel _ (Nat.pow_pos (by omega))]
 simp
theorem div_next {b x m i V r q : Nat} (hb : 2 ≤ b) (hm : 0 < m) (h : DivI b x m (i + 1) V r) (hq : q = (dig b i x + r * b) / m) : DivI b x m i (upd b V i q) ((dig b i x + r * b) % m) ∧ q < b := by
 obtain ⟨h1, h2⟩ := h
 have hr : r < m := by rw [h2]; exact Nat.mod_lt _ hm
 have hd := dig_lt (by omega : 0 < b) i x
 obtain ⟨s1, s2⟩ := div_step (m := m) (div_pow b x i)
 rw [← h2] at s1 s2
 refine ⟨⟨?_, s2.symm⟩, by rw [hq]; exact quot_lt hr hd⟩
 have e := upd_eq b V i q
 have e0 : dig b i V = 0 := by rw [h1]; exact mul_pow_dig hb
 rw [e0] at e
 rw [s1, ← hq, Nat.add_mul]
 have : x / b ^ (i + 1) / m * b * b ^ i = V := by rw [h1, Nat.pow_succ]; simp [Nat.mul_comm, Nat.mul_left_comm, Nat.mul_assoc]
 omega
theorem div_end {b x m V r : Nat} (h : DivI b x m 0 V r) : V = x / m ∧ r = x % m := by
 obtain ⟨h1, h2⟩ := h
 simpa using And.intro h1 h2
theorem div_lt {b x m i V r N : Nat} (hb : 0 < b) (h : DivI b x m i V r) (hx : x < b ^ N) : V < b ^ N := by
 obtain ⟨h1, -⟩ := h
 have h2 : x / b ^ i / m * b ^ i ≤ x := Nat.le_trans (Nat.mul_le_mul_right _ (Nat.div_le_self _ _)) (Nat.div_mul_le_self _ _)
 omega
theorem guess_low {b r y k : Nat} : r / b ^ k / (y / b ^ k + 1) ≤ r / y ∨ y = 0 := by
 rcases Nat.eq_zero_or_pos y with h0 | h0
 ·exact .inr h0
 left
 rw [Nat.le_div_iff_mul_le h0]
 rcases Nat.eq_zero_or_pos (b ^ k) with hp | hp
 ·rw [hp]; simp
 have h1 : y < (y / b ^ k + 1) * b ^ k := by
  have := Nat.lt_mul_div_succ y hp
  rw [Nat.mul_comm]; exact this
 generalize ht : r / b ^ k / (y / b ^ k + 1) = t
 have h2 : t * (y / b ^ k + 1) ≤ r / b ^ k := by rw [← ht]; exact Nat.div_mul_le_self _ _
 calc t * y ≤ t * ((y / b ^ k + 1) * b ^ k) := Nat.mul_le_mul_left _ (by omega)
  _ = t * (y / b ^ k + 1) * b ^ k := by rw [Nat.mul_assoc]
  _ ≤ r / b ^ k * b ^ k := Nat.mul_le_mul_right _ h2
  _ ≤ r := Nat.div_mul_le_self _ _
theorem guess_top {b r y k : Nat} (hp : 0 < b ^ k) (hy : 0 < y / b ^ k) : r / y ≤ r / b ^ k / (y / b ^ k) := by
 rw [Nat.le_div_iff_mul_le hy, Nat.le_div_iff_mul_le hp]
 calc r / y * (y / b ^ k) * b ^ k = r / y * (y / b ^ k * b ^ k) := by rw [Nat.mul_assoc]
  _ ≤ r / y * y := Nat.mul_le_mul_left _ (Nat.div_mul_le_self _ _)
  _ ≤ r := Nat.div_mul_le_self _ _
theorem lead {b y : Nat} (hb : 2 ≤ b) (hy : 0 < y) : dig b (nd b y - 1) y = y / b ^ (nd b y - 1) ∧ 0 < y / b ^ (nd b y - 1) := by
 have h0 := (nd_pos hb).2 hy
 have h1 := nd_lt hb y
 have e : nd b y = nd b y - 1 + 1 := by omega
 constructor
 ·unfold dig
  apply Nat.mod_eq_of_lt
  apply Nat.div_lt_of_lt_mul
  rw [← Nat.pow_succ, Nat.succ_eq_add_one, ← e]; exact h1
 ·exact Nat.div_pos (le_of_nd hb (by omega)) (Nat.pow_pos (by omega))
theorem odd_cop {g : Nat} (h : ¬ 2 ∣ g) : Nat.Coprime g 2 := by
 have h1 : Nat.gcd g 2 ∣ 2 := Nat.gcd_dvd_right _ _
 have h2 := Nat.le_of_dvd (by omega) h1
 have h3 : 0 < Nat.gcd g 2 := Nat.pos_of_dvd_of_pos h1 (by omega)
 have h4 : Nat.gcd g 2 ≠ 2 := fun e => h (by rw [← e]; exact Nat.gcd_dvd_left _ _)
 unfold Nat.Coprime
 omega
theorem gcd_half {n m : Nat} (h : ¬ 2 ∣ Nat.gcd (2 * n) m) : Nat.gcd n m = Nat.gcd (2 * n) m := by
 apply Nat.dvd_antisymm
 ·exact Nat.dvd_gcd (Nat.dvd_trans (Nat.gcd_dvd_left _ _) (Nat.dvd_mul_left _ _)) (Nat.gcd_dvd_right _ _)
 ·exact Nat.dvd_gcd ((odd_cop h).dvd_of_dvd_mul_left (Nat.gcd_dvd_left _ _)) (Nat.gcd_dvd_right _ _)
theorem gcd_half' {n m : Nat} (h : ¬ 2 ∣ Nat.gcd m (2 * n)) : Nat.gcd m n = Nat.gcd m (2 * n) := by
 rw [Nat.gcd_comm m n, Nat.gcd_comm m (2 * n)]
 exact gcd_half (by rw [Nat.gcd_comm]; exact h)
end ExP
end Go.Proofs.YtdkhkfdenlabaaaGreatDoor
namespace Go.Proofs.YtdkhkfdenlabaaaGreatDoor
open Sym
namespace ExP
def cmpN (b x y : Nat) : Int := if nd b x ≠ nd b y then (nd b x : Int) - nd b y else if x < y then -1 else if y < x then 1 else 0
theorem cmp_neg {b x y : Nat} (hb : 2 ≤ b) : cmpN b x y < 0 ↔ x < y := by
 unfold cmpN
 split
 ·rename_i h
  constructor
  ·intro h1; exact nd_less hb (by omega)
  ·intro h1
   rcases Nat.lt_or_ge (nd b x) (nd b y) with h2 | h2
   ·omega
   ·have := nd_less hb (x := y) (y := x) (by omega); omega
 ·split
  ·simp [*]
  ·split <;> simp [*]
theorem cmp_zero {b x y : Nat} (hb : 2 ≤ b) : cmpN b x y = 0 ↔ x = y := by
 unfold cmpN
 split
 ·rename_i h
  constructor
  ·intro h1; omega
  ·rintro rfl; exact absurd rfl h
 ·split
  ·constructor <;> intro h <;> omega
  ·split
   ·constructor <;> intro h <;> omega
   ·constructor <;> intro h <;> omega
theorem cmp_sgn (b : Nat) {x y : Nat} (hb : 2 ≤ b) : (0 ≤ cmpN b x y ↔ y ≤ x) ∧ (0 < cmpN b x y ↔ y < x) ∧ (cmpN b x y ≤ 0 ↔ x ≤ y) := by
 have h1 := cmp_neg hb (x := x) (y := y)
 have h2 := cmp_zero hb (x := x) (y := y)
 omega
theorem cmp_top {b x y j : Nat} (hb : 2 ≤ b) (hn : nd b x = nd b y) (h : x / b ^ (j + 1) = y / b ^ (j + 1)) (hd : dig b j x ≠ dig b j y) : cmpN b x y = if dig b j x < dig b j y then -1 else 1 := by
 unfold cmpN
 rw [if_neg (by omega)]
 rcases Nat.lt_or_ge (dig b j x) (dig b j y) with h1 | h1
 ·have := cmp_less (b := b) (by omega) h h1
  rw [if_pos this, if_pos h1]
 ·have := cmp_less (b := b) (by omega) h.symm (by omega : dig b j y < dig b j x)
  rw [if_neg (by omega), if_pos this, if_neg (by omega)]
theorem cmp_same {b x y : Nat} (h : x / b ^ 0 = y / b ^ 0) : cmpN b x y = 0 := by
 simp only [Nat.pow_zero, Nat.div_one] at h
 subst h
 unfold cmpN
 simp
theorem one_iff {b x : Nat} (hb : 2 ≤ b) : x = 1 ↔ (nd b x = 1 ∧ dig b 0 x = 1) := by
 constructor
 ·rintro rfl
  exact ⟨nd_eq hb (by simp; omega) (.inr (by simp)), by simp [dig, Nat.mod_eq_of_lt (show 1 < b by omega)]⟩
 ·rintro ⟨h1, h2⟩
  have h3 := nd_lt hb x
  rw [h1, Nat.pow_one] at h3
  simp only [dig, Nat.pow_zero, Nat.div_one, Nat.mod_eq_of_lt h3] at h2
  exact h2
theorem row_snoc {k : IntKind} {b i S d : Nat} {v : Int} (hb : 0 < b) (hS : S < b ^ i) (hd : d < b) (hv : v = (d : Int)) : valsK k (dgN b i S) ++ [.int k v] = valsK k (dgN b (i + 1) (S + d * b ^ i)) := by
 rw [dgN_snoc hb hS hd, valsK_append, hv]; rfl
theorem dig_big {b i x : Nat} (hb : 2 ≤ b) (h : nd b x ≤ i) : dig b i x = 0 := dig_zero (lt_pow_mono (by omega) (nd_lt hb x) h)
theorem plus_over {b x y i c S : Nat} (hb : 2 ≤ b) (h : PlusI b x y i c S) (h1 : nd b x < i) (h2 : nd b y < i) : c = 0 := by
 obtain ⟨e, l, -⟩ := h
 have hx := lt_pow_mono (by omega : 0 < b) (nd_lt hb x) (show nd b x ≤ i - 1 by omega)
 have hy := lt_pow_mono (by omega : 0 < b) (nd_lt hb y) (show nd b y ≤ i - 1 by omega)
 have hp : 2 * b ^ (i - 1) ≤ b ^ i := by
  have : b ^ i = b ^ (i - 1) * b := by rw [← Nat.pow_succ]; congr 1; omega
  rw [this, Nat.mul_comm]; exact Nat.mul_le_mul_left _ hb
 rw [Nat.mod_eq_of_lt (by omega), Nat.mod_eq_of_lt (by omega)] at e
 rcases Nat.eq_zero_or_pos c with h0 | h0
 ·exact h0
 ·have := Nat.le_mul_of_pos_left (b ^ i) h0; omega
def mixD (b n i D x : Nat) : List Nat := tab n (fun j => if j < i then dig b j D else dig b j x)
theorem mix_zero (b n D x : Nat) : mixD b n 0 D x = dgN b n x := by unfold mixD dgN; exact tab_congr fun k _ => by simp
theorem mix_all (b n D x : Nat) : mixD b n n D x = dgN b n D := by unfold mixD dgN; exact tab_congr fun k hk => by rw [if_pos hk]
theorem mix_set {b n i D x d : Nat} (hb : 0 < b) (hD : D < b ^ i) (hd : d < b) : (mixD b n i D x).set i d = mixD b n (i + 1) (D + d * b ^ i) x := by
 unfold mixD
 rw [tab_set]
 apply tab_congr
 intro k hk
 have e := dig_add hb hD (m := d) k
 by_cases h1 : k < i
 ·rw [if_neg (by omega), if_pos h1, if_pos (by omega), e, if_pos h1]
 ·by_cases h2 : k = i
  ·subst h2
   rw [if_pos rfl, if_pos (by omega), e, if_neg h1, Nat.sub_self]
   simp [dig, Nat.mod_eq_of_lt hd]
  ·rw [if_neg h2, if_neg h1, if_neg (by omega)]
theorem mix_get {b n i D x : Nat} (h : i < n) : (mixD b n i D x)[i]? = some (dig b i x) := by
 unfold mixD; rw [tab_get _ _ _ h, if_neg (by omega)]
theorem mix_len (b n i D x : Nat) : (mixD b n i D x).length = n := tab_len _ _
theorem lead_lt {b r y : Nat} (hb : 2 ≤ b) (hy : 0 < y) (h : r < y * b) : r / b ^ (nd b y - 1) < b * b := by
 have h0 := (nd_pos hb).2 hy
 have h1 := nd_lt hb y
 have e : nd b y = nd b y - 1 + 1 := by omega
 rw [e, Nat.pow_succ] at h1
 apply Nat.div_lt_of_lt_mul
 have h2 : y * b < b ^ (nd b y - 1) * b * b := by rw [Nat.mul_lt_mul_right (by omega)]; exact h1
 rw [Nat.mul_assoc] at h2
 omega
theorem nd_mono {b x y : Nat} (hb : 2 ≤ b) (h : x ≤ y) : nd b x ≤ nd b y := by
 rcases Nat.lt_or_ge (nd b y) (nd b x) with h1 | h1
 ·have := nd_less hb h1; omega
 ·exact h1
theorem dg_one {b d : Nat} (hb : 2 ≤ b) (hd : d < b) : nd b d ≤ 1 := nd_le hb (by simpa using hd)
theorem dig_self {b d : Nat} (hd : d < b) : dgN b 1 d = [d] := by simp [dgN, tab, dig, Nat.mod_eq_of_lt hd]
theorem nd_mul {b x y : Nat} (hb : 2 ≤ b) : nd b (x * y) ≤ nd b x + nd b y := nd_le hb (by rw [Nat.pow_add]; exact Nat.mul_lt_mul'' (nd_lt hb x) (nd_lt hb y))
end ExP
end Go.Proofs.YtdkhkfdenlabaaaGreatDoor
namespace Go.Proofs.YtdkhkfdenlabaaaGreatDoor
namespace ExP
abbrev Str := List UInt8
def decE (x : Nat) : Str := if x = 0 then [] else Lib.decDigits x
theorem dec_big {x : Nat} (h : ¬ x < 10) : Lib.decDigits x = Lib.decDigits (x / 10) ++ [UInt8.ofNat (48 + x % 10)] := by
 rw [Lib.decDigits, dif_neg h]
theorem decE_snoc {x : Nat} (h : 0 < x) : decE x = decE (x / 10) ++ [UInt8.ofNat (48 + x % 10)] := by
 unfold decE
 rw [if_neg (by omega)]
 by_cases h1 : x < 10
 ·rw [if_pos (Nat.div_eq_of_lt h1), Lib.decDigits_one h1, Nat.mod_eq_of_lt h1]; rfl
 ·rw [if_neg (by omega), dec_big h1]
theorem decE_step {x i : Nat} (h : i < nd 10 x) : decE (x / 10 ^ i) = decE (x / 10 ^ (i + 1)) ++ [UInt8.ofNat (48 + dig 10 i x)] := by
 have h1 := le_of_nd (by omega : 2 ≤ 10) h
 have h2 : 0 < x / 10 ^ i := Nat.div_pos h1 (Nat.pow_pos (by omega))
 rw [decE_snoc h2, Nat.div_div_eq_div_mul, ← Nat.pow_succ]; rfl
theorem dec_pos {x : Nat} (h : 0 < x) : decE x = Lib.decDigits x := if_neg (by omega)
def padk : Nat → Nat → Str
 | 0, _ => []
 | k + 1, d => padk k (d / 10) ++ [UInt8.ofNat (48 + d % 10)]
theorem dec_pad : ∀ (k y d : Nat), 0 < y → d < 10 ^ k → Lib.decDigits (y * 10 ^ k + d) = Lib.decDigits y ++ padk k d
 | 0, y, d, hy, hd => by
   obtain rfl : d = 0 := by simpa using hd
   simp [padk]
 | k + 1, y, d, hy, hd => by
   have h1 : d / 10 < 10 ^ k := Nat.div_lt_of_lt_mul (by rw [Nat.mul_comm, ← Nat.pow_succ]; exact hd)
   have e : y * 10 ^ (k + 1) + d = (y * 10 ^ k + d / 10) * 10 + d % 10 := by rw [Nat.pow_succ, Nat.add_mul]; have := Nat.mul_assoc y (10 ^ k) 10; omega
   have hb : ¬ y * 10 ^ (k + 1) + d < 10 := by
    have : 10 ^ (k + 1) ≤ y * 10 ^ (k + 1) := Nat.le_mul_of_pos_left _ hy
    have : 1 ≤ 10 ^ k := Nat.pow_pos (by omega)
    rw [Nat.pow_succ] at *
    omega
   rw [dec_big hb, padk, ← List.append_assoc, ← dec_pad k y (d / 10) hy h1]
   have e1 : (y * 10 ^ (k + 1) + d) / 10 = y * 10 ^ k + d / 10 := by omega
   have e2 : (y * 10 ^ (k + 1) + d) % 10 = d % 10 := by omega
   rw [e1, e2]
theorem padk_zero : ∀ k, padk k 0 = List.replicate k 48
 | 0 => rfl
 | k + 1 => by
   rw [padk, Nat.zero_div, padk_zero k, List.replicate_succ']; rfl
theorem padk_eq : ∀ (k d : Nat), 0 < k → d < 10 ^ k → padk k d = List.replicate (k - (Lib.decDigits d).length) 48 ++ Lib.decDigits d ∧ (Lib.decDigits d).length ≤ k
 | 0, _, h, _ => by omega
 | k + 1, d, _, hd => by
   rw [padk]
   by_cases h : d < 10
   ·rw [Nat.div_eq_of_lt h, padk_zero, Lib.decDigits_one h, Nat.mod_eq_of_lt h]
    exact ⟨by simp, by simp⟩
   ·have h1 : d / 10 < 10 ^ k := Nat.div_lt_of_lt_mul (by rw [Nat.mul_comm, ← Nat.pow_succ]; exact hd)
    have hk : 0 < k := by
     rcases Nat.eq_zero_or_pos k with h0 | h0
     ·subst h0; simp at hd; omega
     ·exact h0
    obtain ⟨e1, e2⟩ := padk_eq k (d / 10) hk h1
    rw [e1, dec_big h, List.append_assoc]
    refine ⟨?_, by simp; omega⟩
    congr 2
    simp
theorem dec_limb {x i : Nat} (h : i < nd 1000000000 x) (h1 : 0 < x / 1000000000 ^ (i + 1)) : decE (x / 1000000000 ^ i) = decE (x / 1000000000 ^ (i + 1)) ++ (List.replicate (9 - (Lib.decDigits (dig 1000000000 i x)).length) 48 ++ Lib.decDigits (dig 1000000000 i x)) ∧ (Lib.decDigits (dig 1000000000 i x)).length ≤ 9 := by
 have hd := dig_lt (by omega : 0 < 1000000000) i x
 have e9 : (1000000000 : Nat) = 10 ^ 9 := by decide
 obtain ⟨p1, p2⟩ := padk_eq 9 (dig 1000000000 i x) (by omega) (by rw [← e9]; exact hd)
 refine ⟨?_, p2⟩
 rw [← p1]
 have h2 : 0 < x / 1000000000 ^ i := by rw [div_pow]; omega
 rw [dec_pos h2, dec_pos h1, div_pow]
 exact dec_pad 9 _ _ h1 (by rw [← e9]; exact hd)
def valF (v : Nat) (s : Str) : Nat := s.foldl (fun v c => v * 10 + (c.toNat - 48)) v
def valS (s : Str) : Nat := valF 0 s
theorem valF_cons (v : Nat) (c : UInt8) (r : Str) : valF v (c :: r) = valF (v * 10 + (c.toNat - 48)) r := by unfold valF; rw [List.foldl_cons]
theorem valF_nil (v : Nat) : valF v [] = v := by unfold valF; rw [List.foldl_nil]
theorem valF_eq (s : Str) : ∀ v : Nat, valF v s = v * 10 ^ s.length + valS s := by
 induction s with
 | nil => intro v; simp [valS, valF_nil]
 | cons c r ih =>
   intro v
   unfold valS
   rw [valF_cons, valF_cons, ih, ih (0 * 10 + _), List.length_cons, Nat.pow_succ, Nat.add_mul, Nat.add_mul]
   have : v * 10 * 10 ^ r.length = v * (10 ^ r.length * 10) := by simp [Nat.mul_comm, Nat.mul_left_comm, Nat.mul_assoc]
   omega
theorem valF_append (s t : Str) (v : Nat) : valF v (s ++ t) = valF (valF v s) t := by unfold valF; rw [List.foldl_append]
theorem val_append (s t : Str) : valS (s ++ t) = valS s * 10 ^ t.length + valS t := by
 unfold valS; rw [valF_append, valF_eq]; rfl
def digC (c : UInt8) : Bool := 48 ≤ c && c ≤ 57
theorem digC_nat {c : UInt8} : digC c = true ↔ 48 ≤ c.toNat ∧ c.toNat ≤ 57 := by
 simp [digC, UInt8.le_iff_toNat_le]
theorem val_lt : ∀ s : Str, s.all digC = true → valS s < 10 ^ s.length
 | [], _ => by simp [valS, valF_nil]
 | c :: r, h => by
   simp only [List.all_cons, Bool.and_eq_true] at h
   have h1 := digC_nat.1 h.1
   have h2 := val_lt r h.2
   have e2 : valS (c :: r) = (c.toNat - 48) * 10 ^ r.length + valS r := by
    unfold valS
    rw [valF_cons, valF_eq]; simp [valS]
   rw [e2, List.length_cons, Nat.pow_succ]
   have h3 : (c.toNat - 48) * 10 ^ r.length ≤ 9 * 10 ^ r.length := Nat.mul_le_mul_right _ (by omega)
   omega
theorem val_snoc (s : Str) (c : UInt8) : valS (s ++ [c]) = valS s * 10 + (c.toNat - 48) := by
 rw [val_append]; simp [valS, valF_cons, valF_nil]
theorem val_dec (x : Nat) : valS (Lib.decDigits x) = x := by
 induction x using Nat.strongRecOn with
 | _ x ih =>
   have hm : (UInt8.ofNat (48 + x % 10)).toNat = 48 + x % 10 := by simp; omega
   by_cases h : x < 10
   ·rw [Lib.decDigits_one h]
    rw [Nat.mod_eq_of_lt h] at hm
    simp only [valS, valF_cons, valF_nil, hm]; omega
   ·rw [dec_big h, val_snoc, ih _ (by omega), hm]; omega
theorem dec_digits (x : Nat) : (Lib.decDigits x).all digC = true := by
 induction x using Nat.strongRecOn with
 | _ x ih =>
   have hm : (UInt8.ofNat (48 + x % 10)).toNat = 48 + x % 10 := by simp; omega
   have hc : digC (UInt8.ofNat (48 + x % 10)) = true := digC_nat.2 (by rw [hm]; omega)
   by_cases h : x < 10
   ·rw [Lib.decDigits_one h]
    rw [Nat.mod_eq_of_lt h] at hc
    simpa using hc
   ·rw [dec_big h, List.all_append, ih _ (by omega)]; simpa using hc
end ExP
end Go.Proofs.YtdkhkfdenlabaaaGreatDoor
namespace Go.Proofs.YtdkhkfdenlabaaaGreatDoor
namespace ExP
structure Num where
 m : Bool
 n : Nat
 d : Nat
abbrev Fr := Str × Str
def digitsP (s : Str) : Bool := !s.isEmpty && ((s.getD 0 0 != 48 || decide (s.length ≤ 1)) && s.all digC)
def cutM (s : Str) : Str × Bool := if s.head? = some 45 then (s.tail, true) else (s, false)
def readN (f : Fr) : Num := ⟨(cutM f.1).2, valS (cutM f.1).1, valS f.2⟩
def readE (f : Fr) : Int :=
 if digitsP (cutM f.1).1 = false ∨ digitsP f.2 = false ∨ f.2 = [48] ∨ ((cutM f.1).1 = [48] ∧ (cutM f.1).2 = true) then 4
 else if 300 < (cutM f.1).1.length ∨ 300 < f.2.length then 3
 else if Nat.gcd (valS (cutM f.1).1) (valS f.2) ≠ 1 then 4 else 0
def signP (m : Bool) (s : Str) : Str := if m = true then 45 :: s else s
def redN (x : Num) : Nat := x.n / Nat.gcd x.n x.d
def redD (x : Num) : Nat := x.d / Nat.gcd x.n x.d
def overP (x : Num) : Prop := 300 < (Lib.decDigits (redN x)).length ∨ 300 < (Lib.decDigits (redD x)).length
instance (x : Num) : Decidable (overP x) := by unfold overP; infer_instance
def writeF (x : Num) : Fr := if x.n = 0 then ([48], [49]) else if overP x then ([], []) else (signP x.m (Lib.decDigits (redN x)), Lib.decDigits (redD x))
def writeE (x : Num) : Int := if x.n = 0 then 0 else if overP x then 19 else 0
def sumN (x y : Num) : Num :=
 if x.m = y.m then ⟨x.m, x.n * y.d + y.n * x.d, x.d * y.d⟩
 else if y.n * x.d ≤ x.n * y.d then ⟨x.m, x.n * y.d - y.n * x.d, x.d * y.d⟩
 else ⟨y.m, y.n * x.d - x.n * y.d, x.d * y.d⟩
def negN (x : Num) : Num := ⟨!x.m, x.n, x.d⟩
def mulN (x y : Num) : Num := ⟨x.m != y.m, x.n * y.n, x.d * y.d⟩
def invN (x : Num) : Num := ⟨x.m, x.d, x.n⟩
theorem digits_ne {s : Str} (h : digitsP s = true) : s ≠ [] ∧ s.all digC = true := by
 unfold digitsP at h
 simp only [Bool.and_eq_true, Bool.not_eq_true', List.isEmpty_eq_false_iff] at h
 exact ⟨h.1, h.2.2⟩
theorem val_pos {s : Str} (h : digitsP s = true) (h0 : s ≠ [48]) : 0 < valS s := by
 obtain ⟨h1, h2⟩ := digits_ne h
 cases s with
 | nil => exact absurd rfl h1
 | cons c r =>
   simp only [List.all_cons, Bool.and_eq_true] at h2
   have hc := digC_nat.1 h2.1
   have hc0 : c ≠ 48 := by
    rintro rfl
    unfold digitsP at h
    cases r with
    | nil => exact h0 rfl
    | cons d r => simp at h
   have hn : c.toNat ≠ 48 := fun e => hc0 (UInt8.toNat_inj.1 e)
   unfold valS
   rw [valF_cons, valF_eq]
   have : 1 ≤ 10 ^ r.length := Nat.pow_pos (by omega)
   have : 1 * 10 ^ r.length ≤ (0 * 10 + (c.toNat - 48)) * 10 ^ r.length := Nat.mul_le_mul_right _ (by omega)
   omega
theorem read_ok {f : Fr} (h : readE f = 0) : digitsP (cutM f.1).1 = true ∧ digitsP f.2 = true ∧ f.2 ≠ [48] ∧ (cutM f.1).1.length ≤ 300 ∧ f.2.length ≤ 300 ∧ Nat.gcd (readN f).n (readN f).d = 1 ∧ 0 < (readN f).d := by
 unfold readE at h
 split at h
 ·omega
 rename_i h1
 simp only [not_or, Bool.not_eq_false] at h1
 split at h
 ·omega
 rename_i h2
 split at h
 ·omega
 rename_i h3
 exact ⟨h1.1, h1.2.1, h1.2.2.1, by omega, by omega, Decidable.not_not.1 h3, val_pos h1.2.1 h1.2.2.1⟩
theorem nd_dec {x : Nat} (h : 0 < x) : (Lib.decDigits x).length = nd 10 x := by
 have hp := nd_pos (b := 10) (by omega) (x := x)
 suffices hs : ∀ k, k ≤ nd 10 x → (decE (x / 10 ^ k)).length = nd 10 x - k by
  have := hs 0 (Nat.zero_le _)
  rw [Nat.pow_zero, Nat.div_one, dec_pos h] at this
  omega
 intro k hk
 obtain ⟨j, hj⟩ : ∃ j, j = nd 10 x - k := ⟨_, rfl⟩
 induction j generalizing k with
 | zero =>
   have e : k = nd 10 x := by omega
   subst e
   rw [Nat.div_eq_of_lt (nd_lt (by omega) x)]
   simp [decE]
 | succ j ih =>
   rw [decE_step (by omega : k < nd 10 x), List.length_append, ih (k + 1) (by omega) (by omega)]
   simp; omega
theorem red_pos {x : Num} (hn : 0 < x.n) (hd : 0 < x.d) : 0 < redN x ∧ 0 < redD x := by
 have hg : 0 < Nat.gcd x.n x.d := Nat.gcd_pos_of_pos_left _ hn
 exact ⟨Nat.div_pos (Nat.le_of_dvd hn (Nat.gcd_dvd_left _ _)) hg, Nat.div_pos (Nat.le_of_dvd hd (Nat.gcd_dvd_right _ _)) hg⟩
end ExP
end Go.Proofs.YtdkhkfdenlabaaaGreatDoor
namespace Go.Proofs.YtdkhkfdenlabaaaGreatDoor
namespace ExP
def SqI (a x : Nat) : Prop := a < (x + 1) * (x + 1)
theorem dec_head (x : Nat) : 0 < x → ∃ c r, Lib.decDigits x = c :: r ∧ c.toNat ≠ 48 := by
 induction x using Nat.strongRecOn with
 | _ x ih =>
 intro hx
 by_cases h : x < 10
 ·refine ⟨_, _, Lib.decDigits_one h, ?_⟩
  simp; omega
 ·obtain ⟨c, r, h1, h2⟩ := ih (x / 10) (by omega) (by omega)
  exact ⟨c, r ++ [UInt8.ofNat (48 + x % 10)], by rw [dec_big h, h1]; rfl, h2⟩
theorem digitsP_dec (x : Nat) : digitsP (Lib.decDigits x) = true := by
 have ha := dec_digits x
 unfold digitsP
 rw [ha, Bool.and_true]
 rcases Nat.eq_zero_or_pos x with rfl | h
 ·rw [Lib.decDigits_one (by omega)]; rfl
 ·obtain ⟨c, r, h1, h2⟩ := dec_head x h
  rw [h1]
  have : c ≠ 48 := by rintro rfl; exact h2 rfl
  simp [this]
theorem cutM_dec (x : Nat) : cutM (Lib.decDigits x) = (Lib.decDigits x, false) := by
 have h := dec_digits x
 generalize Lib.decDigits x = l at *
 unfold cutM
 cases l with
 | nil => rfl
 | cons c r =>
   have hc : c ≠ 45 := by
    rintro rfl
    simp [digC] at h
   simp [hc]
theorem dec_zero {x : Nat} : Lib.decDigits x = [48] ↔ x = 0 := by
 constructor
 ·intro h
  have := val_dec x
  rw [h] at this
  exact this.symm
 ·rintro rfl
  rw [Lib.decDigits_one (by omega)]; rfl
theorem read_write {n d : Nat} (hd : 0 < d) (hl1 : (Lib.decDigits n).length ≤ 300) (hl2 : (Lib.decDigits d).length ≤ 300) (hg : Nat.gcd n d = 1) :
  readE (Lib.decDigits n, Lib.decDigits d) = 0 ∧ readN (Lib.decDigits n, Lib.decDigits d) = ⟨false, n, d⟩ := by
 unfold readE readN
 dsimp only
 rw [cutM_dec]
 dsimp only
 rw [digitsP_dec, digitsP_dec, val_dec, val_dec]
 refine ⟨?_, rfl⟩
 rw [if_neg, if_neg (by omega), if_neg (by omega)]
 rintro (h | h | h | h)
 ·cases h
 ·cases h
 ·have := dec_zero.1 h; omega
 ·cases h.2
theorem write_ok {x : Num} (hm : x.m = false) (hd : 0 < x.d) (h1 : nd 10 x.n ≤ 300) (h2 : nd 10 x.d ≤ 300) :
  writeE x = 0 ∧ ∃ n d, writeF x = (Lib.decDigits n, Lib.decDigits d) ∧ readE (writeF x) = 0 ∧ readN (writeF x) = ⟨false, n, d⟩ ∧ 0 < d ∧ n * x.d = x.n * d ∧ nd 10 n ≤ 300 ∧ nd 10 d ≤ 300 := by
 have dl : ∀ y, nd 10 y ≤ 300 → (Lib.decDigits y).length ≤ 300 := fun y hy => by
  rcases Nat.eq_zero_or_pos y with rfl | h
  ·rw [Lib.decDigits_one (by omega)]; simp
  ·rw [nd_dec h]; exact hy
 have e0 : Lib.decDigits 0 = [48] := dec_zero.2 rfl
 have e1 : Lib.decDigits 1 = [49] := by rw [Lib.decDigits_one (by omega)]; rfl
 by_cases hn : x.n = 0
 ·refine ⟨by rw [writeE, if_pos hn], 0, 1, ?_⟩
  have hF : writeF x = (Lib.decDigits 0, Lib.decDigits 1) := by rw [writeF, if_pos hn, e0, e1]
  rw [hF]
  obtain ⟨r1, r2⟩ := read_write (n := 0) (d := 1) (by omega) (by rw [e0]; simp) (by rw [e1]; simp) rfl
  have n1 : nd 10 1 ≤ 300 := Nat.le_trans (nd_le (n := 1) (by omega) (by omega)) (by omega)
  exact ⟨rfl, r1, r2, by omega, by rw [hn]; simp, by rw [nd_zero]; omega, n1⟩
 ·have hp := Nat.pos_of_ne_zero hn
  have hg : 0 < Nat.gcd x.n x.d := Nat.gcd_pos_of_pos_left _ hp
  have b1 := nd_mono (b := 10) (by omega) (Nat.div_le_self x.n (Nat.gcd x.n x.d))
  have b2 := nd_mono (b := 10) (by omega) (Nat.div_le_self x.d (Nat.gcd x.n x.d))
  have l1 := dl _ (Nat.le_trans b1 h1)
  have l2 := dl _ (Nat.le_trans b2 h2)
  have ho : ¬ overP x := by unfold overP redN redD; omega
  have hF : writeF x = (Lib.decDigits (x.n / Nat.gcd x.n x.d), Lib.decDigits (x.d / Nat.gcd x.n x.d)) := by
   rw [writeF, if_neg hn, if_neg ho, hm]; rfl
  have hdp : 0 < x.d / Nat.gcd x.n x.d := Nat.div_pos (Nat.le_of_dvd hd (Nat.gcd_dvd_right _ _)) hg
  have hgg : Nat.gcd (x.n / Nat.gcd x.n x.d) (x.d / Nat.gcd x.n x.d) = 1 := Nat.gcd_div_gcd_div_gcd_of_pos_left hp
  obtain ⟨r1, r2⟩ := read_write hdp l1 l2 hgg
  rw [hF]
  refine ⟨by rw [writeE, if_neg hn, if_neg ho], _, _, rfl, r1, r2, hdp, ?_, by omega, by omega⟩
  have q1 := Nat.div_mul_cancel (Nat.gcd_dvd_left x.n x.d)
  have q2 := Nat.div_mul_cancel (Nat.gcd_dvd_right x.n x.d)
  generalize Nat.gcd x.n x.d = g at *
  generalize x.n / g = u at *
  generalize x.d / g = v at *
  rw [← q1, ← q2, Nat.mul_assoc, Nat.mul_comm g v]
end ExP
end Go.Proofs.YtdkhkfdenlabaaaGreatDoor
namespace Go.Proofs.YtdkhkfdenlabaaaGreatDoor
namespace ExP
structure EqN (x y : Num) : Prop where
 dx : 0 < x.d
 dy : 0 < y.d
 cross : x.n * y.d = y.n * x.d
 sign : x.n ≠ 0 → x.m = y.m
theorem EqN.refl {x : Num} (h : 0 < x.d) : EqN x x := ⟨h, h, rfl, fun _ => rfl⟩
theorem EqN.zero {x y : Num} (h : EqN x y) : x.n = 0 ↔ y.n = 0 := by
 have h1 := h.cross; have h2 := h.dx; have h3 := h.dy
 constructor
 ·intro e
  rw [e, Nat.zero_mul] at h1
  exact (Nat.mul_eq_zero.1 h1.symm).resolve_right (by omega)
 ·intro e
  rw [e, Nat.zero_mul] at h1
  exact (Nat.mul_eq_zero.1 h1).resolve_right (by omega)
theorem EqN.symm {x y : Num} (h : EqN x y) : EqN y x := ⟨h.dy, h.dx, h.cross.symm, fun e => (h.sign fun e' => e (h.zero.1 e')).symm⟩
theorem EqN.trans {x y z : Num} (h : EqN x y) (k : EqN y z) : EqN x z := ⟨h.dx, k.dy, by
 have h1 := h.cross; have k1 := k.cross
 have e : x.n * z.d * y.d = z.n * x.d * y.d := by
  rw [Nat.mul_right_comm, h1, Nat.mul_right_comm, k1, Nat.mul_right_comm z.n, Nat.mul_right_comm]
 exact Nat.eq_of_mul_eq_mul_right h.dy e, fun e => (h.sign e).trans (k.sign fun e' => e (h.zero.2 e'))⟩
theorem red_cross {x : Num} (hd : 0 < x.d) : Nat.gcd (redN x) (redD x) = 1 ∧ 0 < redD x ∧ x.n * redD x = redN x * x.d := by
 have hg : 0 < Nat.gcd x.n x.d := Nat.gcd_pos_of_pos_right _ hd
 refine ⟨Nat.gcd_div_gcd_div_gcd_of_pos_right hd, Nat.div_pos (Nat.le_of_dvd hd (Nat.gcd_dvd_right _ _)) hg, ?_⟩
 unfold redN redD
 have q1 := Nat.div_mul_cancel (Nat.gcd_dvd_left x.n x.d)
 have q2 := Nat.div_mul_cancel (Nat.gcd_dvd_right x.n x.d)
 generalize Nat.gcd x.n x.d = g at *
 generalize x.n / g = u at *
 generalize x.d / g = v at *
 rw [← q1, ← q2, Nat.mul_assoc, Nat.mul_comm g v]
theorem red_same {x y : Num} (h : EqN x y) : redN x = redN y ∧ redD x = redD y := by
 obtain ⟨g1, p1, c1⟩ := red_cross h.dx
 obtain ⟨g2, p2, c2⟩ := red_cross h.dy
 have hc : redN x * redD y = redN y * redD x := by
  have e : redN x * redD y * (x.d * y.d) = redN y * redD x * (x.d * y.d) := by
   have a1 : redN x * redD y * (x.d * y.d) = (redN x * x.d) * (redD y * y.d) := Nat.mul_mul_mul_comm _ _ _ _
   have a2 : redN y * redD x * (x.d * y.d) = (redN y * y.d) * (redD x * x.d) := by
    rw [Nat.mul_comm x.d y.d, Nat.mul_mul_mul_comm]
   rw [a1, a2, ← c1, ← c2]
   have h1 := h.cross
   have b1 : x.n * redD x * (redD y * y.d) = (x.n * y.d) * (redD x * redD y) := by
    rw [Nat.mul_comm (redD y) y.d, Nat.mul_mul_mul_comm]
   have b2 : y.n * redD y * (redD x * x.d) = (y.n * x.d) * (redD x * redD y) := by
    rw [Nat.mul_comm (redD x) x.d, Nat.mul_mul_mul_comm, Nat.mul_comm (redD y)]
   rw [b1, b2, h1]
  exact Nat.eq_of_mul_eq_mul_right (Nat.mul_pos h.dx h.dy) e
 have d1 : redN x ∣ redN y := (show Nat.Coprime (redN x) (redD x) from g1).dvd_of_dvd_mul_right ⟨redD y, hc.symm⟩
 have d2 : redN y ∣ redN x := (show Nat.Coprime (redN y) (redD y) from g2).dvd_of_dvd_mul_right ⟨redD x, hc⟩
 have e1 := Nat.dvd_antisymm d1 d2
 refine ⟨e1, ?_⟩
 rcases Nat.eq_zero_or_pos (redN x) with h0 | h0
 ·rw [h0, Nat.gcd_zero_left] at g1
  rw [← e1, h0, Nat.gcd_zero_left] at g2
  rw [g1, g2]
 ·rw [← e1] at hc
  exact (Nat.eq_of_mul_eq_mul_left h0 hc).symm
section
theorem write_same {x y : Num} (h : EqN x y) : writeF x = writeF y ∧ writeE x = writeE y := by
 obtain ⟨e1, e2⟩ := red_same h
 have e3 : overP x ↔ overP y := by unfold overP; rw [e1, e2]
 unfold writeF writeE
 by_cases h0 : x.n = 0
 ·rw [if_pos h0, if_pos (h.zero.1 h0), if_pos h0, if_pos (h.zero.1 h0)]
  exact ⟨rfl, rfl⟩
 ·have h1 : ¬ y.n = 0 := fun e => h0 (h.zero.2 e)
  rw [if_neg h0, if_neg h1, if_neg h0, if_neg h1, h.sign h0]
  by_cases ho : overP x
  ·rw [if_pos ho, if_pos (e3.1 ho), if_pos ho, if_pos (e3.1 ho)]
   exact ⟨rfl, rfl⟩
  ·rw [if_neg ho, if_neg (fun h => ho (e3.2 h)), if_neg ho, if_neg (fun h => ho (e3.2 h)), e1, e2]
   exact ⟨rfl, rfl⟩
theorem write_read {x : Num} (hd : 0 < x.d) (hE : writeE x = 0) : readE (writeF x) = 0 ∧ EqN (readN (writeF x)) x ∧ ((readN (writeF x)).m = true → (readN (writeF x)).n ≠ 0) := by
 by_cases hn : x.n = 0
 ·have hF : writeF x = ([48], [49]) := by unfold writeF; rw [if_pos hn]
  rw [hF]
  refine ⟨by decide, ⟨by decide, hd, ?_, fun h => absurd (by decide) h⟩, fun h => by revert h; decide⟩
  rw [hn]
  show valS [48] * x.d = 0 * valS [49]
  have : valS [48] = 0 := by decide
  rw [this, Nat.zero_mul, Nat.zero_mul]
 ·have hp := Nat.pos_of_ne_zero hn
  have ho : ¬ overP x := fun h => by unfold writeE at hE; rw [if_neg hn, if_pos h] at hE; cases hE
  have hF : writeF x = (signP x.m (Lib.decDigits (redN x)), Lib.decDigits (redD x)) := by unfold writeF; rw [if_neg hn, if_neg ho]
  obtain ⟨r1, r2⟩ := red_pos hp hd
  obtain ⟨g1, -, c1⟩ := red_cross hd
  rw [hF]
  have hcut : cutM (signP x.m (Lib.decDigits (redN x))) = (Lib.decDigits (redN x), x.m) := by
   have ha := dec_digits (redN x)
   cases hm : x.m with
   | true => rfl
   | false =>
     show cutM (Lib.decDigits (redN x)) = _
     unfold cutM
     rw [if_neg]
     intro h
     cases hl : Lib.decDigits (redN x) with
     | nil => rw [hl] at h; cases h
     | cons c r =>
       rw [hl] at h ha
       have : c = 45 := by simpa using h
       subst this
       simp [digC] at ha
  have hN : readN (signP x.m (Lib.decDigits (redN x)), Lib.decDigits (redD x)) = ⟨x.m, redN x, redD x⟩ := by
   unfold readN
   rw [hcut, val_dec, val_dec]
  have hl : (Lib.decDigits (redN x)).length ≤ 300 ∧ (Lib.decDigits (redD x)).length ≤ 300 := by unfold overP at ho; omega
  obtain ⟨k1, k2⟩ := read_write r2 hl.1 hl.2 g1
  refine ⟨?_, ⟨?_, hd, ?_, fun _ => ?_⟩, fun _ => ?_⟩
  ·unfold readE at k1 ⊢
   have hcut0 : cutM (Lib.decDigits (redN x)) = (Lib.decDigits (redN x), false) := by
    have := congrArg Num.m k2
    have hn0 := dec_digits (redN x)
    unfold cutM
    rw [if_neg]
    intro h
    cases hl : Lib.decDigits (redN x) with
    | nil => rw [hl] at h; cases h
    | cons c r =>
      rw [hl] at h hn0
      have : c = 45 := by simpa using h
      subst this
      simp [digC] at hn0
   rw [hcut0] at k1
   rw [hcut]
   dsimp only at k1 ⊢
   have hz : ¬ Lib.decDigits (redN x) = [48] := fun h => by have := dec_zero.1 h; omega
   simp only [hz, false_and, or_false] at k1 ⊢
   exact k1
  ·rw [hN]; exact r2
  ·rw [hN]; exact c1.symm
  ·rw [hN]
  ·rw [hN]; exact Nat.ne_of_gt r1
end
end ExP
end Go.Proofs.YtdkhkfdenlabaaaGreatDoor
namespace Go.Proofs.YtdkhkfdenlabaaaGreatDoor
namespace ExP
def runD (s : Str) : Str := s.takeWhile digC
def runR (s : Str) : Str := s.dropWhile digC
theorem run_app (s : Str) : runD s ++ runR s = s := List.takeWhile_append_dropWhile
theorem take_app {a b s : Str} (h : a ++ b = s) : s.take a.length = a := by subst h; rw [List.take_left]
theorem drop_app {a b s : Str} (h : a ++ b = s) : s.drop a.length = b := by subst h; rw [List.drop_left]
theorem run_len (s : Str) : (runD s).length + (runR s).length = s.length := by
 have := congrArg List.length (run_app s)
 rwa [List.length_append] at this
theorem runD_all (s : Str) : (runD s).all digC = true := by
 unfold runD
 induction s with
 | nil => rfl
 | cons c r ih =>
   by_cases h : digC c = true
   ·rw [List.takeWhile_cons_of_pos h, List.all_cons, h, ih]; rfl
   ·rw [List.takeWhile_cons_of_neg h]; rfl
theorem run_take (s : Str) : s.take (s.length - (runR s).length) = runD s := by
 have h1 := run_app s
 have h2 := run_len s
 have : s.length - (runR s).length = (runD s).length := by omega
 rw [this]
 exact take_app h1
theorem run_drop (s : Str) : s.drop (runD s).length = runR s := by
 exact drop_app (run_app s)
theorem run_take' (s : Str) : s.take (runD s).length = runD s := by
 exact take_app (run_app s)
theorem run_all {s : Str} (h : s.all digC = true) : runD s = s ∧ runR s = [] := by
 unfold runD runR
 induction s with
 | nil => exact ⟨rfl, rfl⟩
 | cons c r ih =>
   simp only [List.all_cons, Bool.and_eq_true] at h
   obtain ⟨h1, h2⟩ := ih h.2
   rw [List.takeWhile_cons_of_pos h.1, List.dropWhile_cons_of_pos h.1, h1, h2]
   exact ⟨rfl, rfl⟩
theorem run_not {s : Str} (h : runR s = []) : s.all digC = true := by
 have h1 := run_app s
 rw [h, List.append_nil] at h1
 rw [← h1]; exact runD_all s
def sgnP (s : Str) : Bool := s.head? == some 45
def sgnR (s : Str) : Str := if s.head? = some 45 ∨ s.head? = some 43 then s.tail else s
def expOK (d : Str) : Bool := !d.isEmpty && (d.all digC && decide (d.length ≤ 3))
def expV (s : Str) : Int := match s with
 | [] => 0
 | _ :: t => if sgnP t = true then -(valS (sgnR t) : Int) else (valS (sgnR t) : Int)
def expB (s : Str) : Bool := match s with
 | [] => true
 | c :: t => (c == 101 || c == 69) && expOK (sgnR t)
theorem expOK_run {t : Str} (h : expOK t = true) : t ≠ [] ∧ runD t = t ∧ runR t = [] ∧ t.length ≤ 3 ∧ t.all digC = true := by
 simp only [expOK, Bool.and_eq_true, Bool.not_eq_true', List.isEmpty_eq_false_iff, decide_eq_true_eq] at h
 exact ⟨h.1, (run_all h.2.1).1, (run_all h.2.1).2, h.2.2, h.2.1⟩
theorem expOK_not {t : Str} (h : expOK t = false) : runD t = [] ∨ 3 < (runD t).length ∨ runR t ≠ [] := by
 by_cases hr : runR t = []
 ·have ha := run_not hr
  have hd := (run_all ha).1
  rw [hd]
  by_cases h0 : t = []
  ·exact .inl h0
  ·refine .inr (.inl ?_)
   have : t.isEmpty = false := by simpa using h0
   rw [expOK, this, ha] at h
   simpa using h
 ·exact .inr (.inr hr)
theorem val3 {t : Str} (h : expOK t = true) : valS t < 1000 := by
 obtain ⟨-, -, -, hl, ha⟩ := expOK_run h
 have := val_lt t ha
 exact Nat.lt_of_lt_of_le this (Nat.pow_le_pow_right (by omega) hl)
def parD (s : Str) : Str := if s.head? = some 46 then runD s.tail else []
def parR (s : Str) : Str := if s.head? = some 46 then runR s.tail else s
def parX (s : Str) : Bool := s.head? == some 46 && (runD s.tail).isEmpty
def decW (s : Str) : Str := runD (cutM s).1
def decP (s : Str) : Str := parD (runR (cutM s).1)
def decT (s : Str) : Str := parR (runR (cutM s).1)
def parE (s : Str) : Int :=
 if 1000 < s.length then 3
 else if parX (runR (cutM s).1) = true ∨ decW s = [] ∨ expB (decT s) = false then 10 else 0
def scaleN (x : Num) (k : Int) : Num := if k < 0 then ⟨x.m, x.n, x.d * 10 ^ k.natAbs⟩ else ⟨x.m, x.n * 10 ^ k.natAbs, x.d⟩
def decN (s : Str) : Num := scaleN ⟨(cutM s).2, valS (decW s ++ decP s), 1⟩ (expV (decT s) - ((decP s).length : Int))
theorem ten_val (k : Nat) : valS (49 :: List.replicate k 48) = 10 ^ k ∧ (49 :: List.replicate k 48 : Str).all digC = true := by
 constructor
 ·induction k with
  | zero => rfl
  | succ k ih =>
    rw [List.replicate_succ', ← List.cons_append, val_snoc, ih, Nat.pow_succ]
    simp
 ·simp [digC]
end ExP
end Go.Proofs.YtdkhkfdenlabaaaGreatDoor
