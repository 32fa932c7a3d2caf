/- A walk that reckons: more operations: quotients, bytes as strings, values by any lemma, calls that make a slice. A walk that reckons: slices of the function's own, of elements of any size. A walk that reckons: a builder of strings of the function's own; a new beginning in the midst of a walk. A walk that reckons: a scope through which the run goes without a jump. A walk that reckons: slices made whole, cells of one's own slices read and written, calls that answer with slices. Numbers as lists of digits in any base. A walk that reckons: numbers as slices of digits. A walk that reckons: slices held against nil, bools held against each other, an empty slice made. -/
import Derived.Test.YtnbahdnjcdimgaaDoorMGB
import Derived.Lib.FrozenHead
import Derived.Scope
import Derived.Laws.OwnMore
import Derived.Test.YtnbahdnjcdimgaaDoorMGA
import Derived.Laws.Cover3
set_option linter.unusedSimpArgs false
set_option linter.unusedVariables false
namespace Go.Proofs.YtnbahdnjcdimgaaDoor
open Go.RowKit
namespace Sym
theorem x_rem {C : Ctx} {G : Blobs} {x y : Operand} {t u : TypeId} {k : IntKind} {a b : Int} (ha : 0 ≤ a) (hb : 0 < b) : ExtN C G (.binOp .rem t x y u) [.int k a, .int k b] (.int k (a % b)) := by
  unfold ExtN
  intro ρ β w dst ty pos after g _ _ h
  have h' : ρ x = .int k a ∧ ρ y = .int k b := by simpa [opsX, SV.dens, SV.den] using h
  have e0 : ¬ b = 0 := by omega
  simp [execOp, eqGuard, binOp, Op.intDiv, h'.1, h'.2, e0, SV.den, Int.tmod_eq_emod_of_nonneg ha]
theorem x_quo {C : Ctx} {G : Blobs} {x y : Operand} {t u : TypeId} {k : IntKind} {a b : Int} (ha : 0 ≤ a) (hb : 0 < b) (hk : inK k a) : ExtN C G (.binOp .quo t x y u) [.int k a, .int k b] (.int k (a / b)) := by
  unfold ExtN
  intro ρ β w dst ty pos after g _ _ h
  have h' : ρ x = .int k a ∧ ρ y = .int k b := by simpa [opsX, SV.dens, SV.den] using h
  have e0 : ¬ b = 0 := by omega
  have h1 : 0 ≤ a / b := Int.ediv_nonneg ha (by omega)
  have h2 : a / b ≤ a := Int.ediv_le_self _ ha
  have hw : k.wrap (a / b) = a / b := inK_wrap (by cases k <;> simp only [inK] at hk ⊢ <;> omega)
  simp [execOp, eqGuard, binOp, Op.intDiv, h'.1, h'.2, e0, SV.den, Int.tdiv_eq_ediv_of_nonneg ha, hw]
/-- bytes of one's own, turned into a string -/
theorem x_bytesStr {C : Ctx} {G : Blobs} {x : Operand} {t u e : TypeId} {g cap n : Nat} {xs : List Value} (i : Nat) (l : List UInt8) (hs : C.P.underlying t = some (.slice e)) (he : C.P.underlying e = some (.int .u8)) (hd : C.P.underlying u = some .string)
    (ri : G i = some (OwnI e g n cap xs)) (hx : xs = bvals l) : ExtN C G (.convert t u x) [.any (.slice (some ⟨g, 0, none⟩) n cap)] (.str l) := by
  unfold ExtN
  intro ρ β w dst ty pos after gd _ hG h
  have e1 : ρ x = .slice (some ⟨g, 0, none⟩) n cap := by simpa [opsX, SV.dens, SV.den] using h
  have ho := (hG i _ ri).2
  have hc := OwnI.cell ho
  have hn : n = l.length := by obtain ⟨-, cur, -, -, -, -, -, h6⟩ := ho; rw [← h6, hx]; simp [bvals]
  subst hn
  have hr := run_convert_bytes_back (P := C.P) w t u e ⟨g, 0, none⟩ cap l hs he hd (fun j hj => hc j _ (by rw [hx]; simp [bvals, hj]))
  simp [execOp, e1, hr, SV.den, bstr]
/-- a block that is there gets a number -/
theorem Sat.learn {base : Nat} {w0 : Base} {β : Nat → Nat} {a : Act} {w : World} {fr : List (Nat × SV)} {rows : List (Nat × Bool × SRow)} {nx n b : Nat} {o : Bool} {Φ : Nat → Option Obj → Prop} (hs : Sat base w0 ⟨fr, rows, nx, n⟩ β a w) (hb : b < w.heap.size) (hΦ : Φ b w.heap[b]?)
    (ho : o = true → base ≤ b ∧ ∀ i o' r, get rows i = some (o', r) → β i ≠ b) (hn : ∀ i r, get rows i = some (true, r) → β i ≠ b) (hp : o = true → ∀ q, w0.pr q → b ≠ q := by exact fun e => by cases e) :
    Sat base w0 ⟨fr, (nx, o, .blob Φ) :: rows, nx + 1, n⟩ (fun i => if i = nx then b else β i) a w := by
  obtain ⟨h1, h2, h3, h4⟩ := hs
  have hbe : ∀ i, i < nx → (fun i => if i = nx then b else β i) i = β i := fun i hi => by dsimp only; rw [if_neg (by omega)]
  refine ⟨h1, h2, fun s v hv => ?_, ?_⟩
  · obtain ⟨k1, k2⟩ := h3 s v hv
    exact ⟨by rw [k1, SV.den_ext hbe v k2], SV.ok_mono (Nat.le_succ _) v k2⟩
  · refine ⟨h4.below, h4.base_le, fun i ow r' hi => ?_, fun i hi => ?_, fun i j r' oj rj hi hj hji => ?_, Nat.le_trans h4.n0 (Nat.le_succ _), fun i hi => ?_, fun q hq => ⟨(h4.pr q hq).1, (h4.pr q hq).2.1, fun i r hi => ?_⟩⟩
    · rw [get_cons] at hi
      by_cases e : nx = i
      · rw [if_pos e] at hi
        cases hi
        subst e
        dsimp only
        rw [if_pos rfl]
        exact ⟨⟨hb, hΦ⟩, trivial, by omega, fun h => (ho h).1⟩
      · rw [if_neg e] at hi
        obtain ⟨k1, k2, k3, k4⟩ := h4.row i ow r' hi
        have k3 : i < nx := k3
        dsimp only
        rw [if_neg (by omega)]
        exact ⟨RowIs_ext hbe k2 k1, SRow.ok_mono (Nat.le_succ _) r' k2, by omega, k4⟩
    · have hi : i < nx + 1 := hi
      by_cases e : i = nx
      · rw [if_pos e]; exact hb
      · rw [if_neg e]; exact h4.lt i (show i < nx by omega)
    · rw [get_cons] at hi hj
      by_cases e : nx = i
      · rw [if_pos e] at hi
        cases hi
        rw [if_neg (by omega)] at hj
        rw [if_pos e.symm, if_neg (by omega)]
        exact (ho rfl).2 j oj rj hj
      · rw [if_neg e] at hi
        rw [if_neg (by omega : ¬ i = nx)]
        by_cases ej : nx = j
        · rw [if_pos ej.symm]; exact fun e0 => hn i r' hi e0.symm
        · rw [if_neg ej] at hj; rw [if_neg (by omega)]; exact h4.inj i j r' oj rj hi hj hji
    · have h5 : w0.n0 ≤ nx := h4.n0
      have e : ¬ i = nx := by omega
      rw [if_neg e]; exact h4.ext i hi
    · rw [get_cons] at hi
      by_cases e : nx = i
      · rw [if_pos e] at hi
        cases hi
        rw [if_pos e.symm]
        exact hp rfl q hq
      · rw [if_neg e] at hi
        rw [if_neg (fun e' => e e'.symm)]
        exact (h4.pr q hq).2.2 i r hi
/-- what a slice shows, in a world -/
def SlAt (a : Option Addr) (xs : List Value) (w : World) : Prop := ∀ i v, xs[i]? = some v → ∃ ad, a = some ad ∧ ad.block < w.heap.size ∧ w.cell? (ad.add i) = some v
/-- what a slice shows, all in one block -/
def SlB (a : Option Addr) (xs : List Value) (b : Nat) (o : Option Obj) : Prop := ∀ w : World, w.heap[b]? = o → ∀ i v, xs[i]? = some v → ∃ ad, a = some ad ∧ ad.block = b ∧ w.cell? (ad.add i) = some v
def Fresh (a : Option Addr) (w : World) : Prop := ∀ ad, a = some ad → w.heap.size ≤ ad.block
theorem add_block (a : Addr) (k : Nat) : (a.add k).block = a.block := by unfold Addr.add; split <;> rfl
theorem SlAt.below {a : Option Addr} {xs : List Value} {w w' : World} (h : SlAt a xs w) (hb : Below w.heap.size w w') : SlAt a xs w' := fun i v hi => by
  obtain ⟨ad, h1, h2, h3⟩ := h i v hi
  exact ⟨ad, h1, Nat.lt_of_lt_of_le h2 hb.size, by rw [World.cell?_of_block (w := w) (by rw [add_block]; exact hb.block _ h2)]; exact h3⟩
theorem SlAt.some {a : Option Addr} {xs : List Value} {w : World} (h : SlAt a xs w) (hx : xs ≠ []) : ∃ ad, a = some ad := by
  cases xs with
  | nil => exact absurd rfl hx
  | cons x r => obtain ⟨ad, e, _⟩ := h 0 x rfl; exact ⟨ad, e⟩
theorem SlB.at {a : Option Addr} {xs : List Value} {b : Nat} {w : World} (h : SlB a xs b w.heap[b]?) (hb : b < w.heap.size) : SlAt a xs w := fun i v hi => by
  obtain ⟨ad, h1, h2, h3⟩ := h w rfl i v hi
  exact ⟨ad, h1, by omega, h3⟩
theorem xop_of {C : Ctx} (hE : EnvOK C.P C.E) (hres : C.fn.results = C.res.toArray) {all l : List Oper} {k : List It} {o : Oper} {st : St} (fuel : Nat) (h : OpX C o st (fun st' => wpS C fuel (.ops all l :: k) st')) : XopN C all l k o st := by
  unfold OpX at h
  unfold XopN
  exact fun β a w hs => h β a w hs _ _ (fun st' β' a' w' hK hs' => wpS_sound hE hres fuel (.ops all l :: k) st' β' a' w' hK hs')
theorem call_of {C : Ctx} (hE : EnvOK C.P C.E) (hres : C.fn.results = C.res.toArray) {all l : List Oper} {k : List It} {dst : Option Nat} {f : FuncId} {args : List SV} {st : St} (fuel : Nat) (h : CallX C dst f args st (fun st' => wpS C fuel (.ops all l :: k) st')) : CallN C all l k dst f args st := by
  unfold CallX at h
  unfold CallN
  refine ⟨h.1, fun β a w hs => (h.2 β a w hs).mono ?_⟩
  rintro e w' ⟨v, st', β', rfl, hK, hs'⟩
  exact wpS_sound hE hres fuel (.ops all l :: k) st' β' _ w' hK hs'
theorem opx_val {C : Ctx} {d : Nat} {op : Op} {ty : TypeId} {pos : String} {after : Array Edge} {gd : Option (Nat × Bool)} {fr : List (Nat × SV)} {rows : List (Nat × Bool × SRow)} {nx n : Nat} {K : St → Prop}
    (v : SV) (hd : Nat.blt d n = true) (hok : v.ok nx) (hr : ∀ β a w, Sat C.base C.w0 ⟨fr, rows, nx, n⟩ β a w → (execOp a.eval ⟨some d, op, ty, pos, after, gd⟩).run C.P w = .ok (.value (v.den β)) w)
    (h : K ⟨(d, v) :: fr, rows, nx, n⟩) : OpX C ⟨some d, op, ty, pos, after, gd⟩ ⟨fr, rows, nx, n⟩ K := by
  unfold OpX
  intro β a w hs next Q hn
  unfold Oper.wp
  rw [hr β a w hs]
  exact hn _ β _ w h (hs.put (by simpa [Nat.blt_eq] using hd) hok)
end Sym
end Go.Proofs.YtnbahdnjcdimgaaDoor
namespace Go.Proofs.YtnbahdnjcdimgaaDoor
open Go.RowKit
namespace Sym
def OwnS (e : TypeId) (sz g n cap : Nat) (xs : List Value) (b : Nat) (o : Option Obj) : Prop := b = g ∧ ∃ cur, o = some (.cells cur e (0, 0)) ∧ n ≤ cap ∧ cap ≤ maxLen ∧ cur.size = cap * sz ∧ cur.toList.take (n * sz) = xs ∧ xs.length = n * sz
theorem OwnS.owns {e : TypeId} {sz g n cap : Nat} {xs : List Value} {b base : Nat} {w : World} (h : OwnS e sz g n cap xs b w.heap[b]?) (hb : base ≤ b) : w.ownsRow base e sz (.slice (some ⟨g, 0, none⟩) n cap) n xs := by
  obtain ⟨rfl, cur, h1, h2, h3, h4, h5, h6⟩ := h
  exact ⟨h6, .inr ⟨b, cap, cur, rfl, hb, h1, h2, h3, h4, h5⟩⟩
theorem OwnS.cell {e : TypeId} {sz g n cap : Nat} {xs : List Value} {b : Nat} {w : World} (h : OwnS e sz g n cap xs b w.heap[b]?) : ∀ j u, xs[j]? = some u → w.cell? ((⟨g, 0, none⟩ : Addr).add j) = some u := by
  obtain ⟨rfl, cur, h1, h2, h3, h4, h5, h6⟩ := h
  intro j u hj
  rw [add_at]
  have hjn : j < n * sz := by have := (List.getElem?_eq_some_iff.1 hj).1; omega
  have : cur[j]? = some u := by
    rw [← h5, List.getElem?_take, if_pos hjn] at hj
    simpa using hj
  simp [World.cell?, h1, this]
theorem OwnS.slAt {e : TypeId} {sz g n cap : Nat} {xs : List Value} {b : Nat} {w : World} (h : OwnS e sz g n cap xs b w.heap[b]?) (hb : b < w.heap.size) : SlAt (some ⟨g, 0, none⟩) xs w := fun j u hj => ⟨_, rfl, by rw [← h.1]; exact hb, h.cell j u hj⟩
theorem fill_whole {sz : Nat} {u : Value} {xs : List Value} (hu : u.cells = xs.toArray) (hl : xs.length = sz) (A : Array Value) (hA : A.size = sz) : Instr.fill (fun i => some (i * sz, sz)) A [(0, u)] = some xs.toArray := by
  simp only [Instr.fill, hu, Nat.zero_mul]
  rw [if_neg (by simp; omega)]
  congr 1
  have := foldl_set 0 xs 0 A (by omega)
  rw [← Array.foldl_toList, Array.toList_zipIdx]
  simp only [Nat.add_zero, Nat.zero_add] at this ⊢
  refine this.trans ?_
  rw [List.drop_eq_nil_of_le (by simp; omega)]
  simp
theorem opx_build1 {C : Ctx} {d : Nat} {ty : TypeId} {pos : String} {after : Array Edge} {gd : Option (Nat × Bool)} {fr : List (Nat × SV)} {rows : List (Nat × Bool × SRow)} {nx n : Nat} {K : St → Prop}
    {x : Operand} {t e : TypeId} {sz : Nat} {v : SV} {vs : List SV} {xs : List Value} {z0 : Value} (hd : Nat.blt d n = true) (hx : ev fr x = some v) (hc : cellsSV v = some vs) (hxs : ∀ β, SV.dens β vs = xs) (hl : xs.length = sz) (h0 : 0 < sz) (hk : sz ≤ 1000)
    (ht : C.P.underlying t = some (.slice e)) (hs : ∀ w, (sizeOf e).run C.P w = .ok sz w) (hz : ∀ w, (zeroValue e).run C.P w = .ok z0 w)
    (h : ∀ g, K ⟨(d, .any (.slice (some ⟨g, 0, none⟩) 1 1)) :: fr, (nx, true, .blob (OwnS e sz g 1 1 xs)) :: rows, nx + 1, n⟩) :
    OpX C ⟨some d, .buildSlice t 1 ⟨[(0, x)]⟩, ty, pos, after, gd⟩ ⟨fr, rows, nx, n⟩ K := by
  unfold OpX
  intro β a w hs0 next Q hn
  obtain ⟨e1, hok⟩ := ev_sound hs0 hx
  obtain ⟨ec, -⟩ := cells_sound (β := β) hc hok
  rw [hxs β] at ec
  have q0 : (underlying t).run C.P w = .ok (.slice e) w := by simp [underlying, ht]
  have hA : ((Array.range (1 * sz)).map (z0.cells[· % z0.cells.size]!)).size = sz := by simp
  have hf := fill_whole ec hl _ hA
  have hrun : (execOp a.eval ⟨some d, .buildSlice t 1 ⟨[(0, x)]⟩, ty, pos, after, gd⟩).run C.P w = .ok (.value (.slice (some ⟨w.heap.size, 0, none⟩) 1 1)) (w.alloc (.cells xs.toArray e)) := by
    have n1 : ¬ 1 * sz > 2 ^ 24 := by omega
    have n2 : ¬ 1 * sz = 0 := by omega
    simp only [execOp, Sem.run_bind]
    unfold Instr.buildSlice
    simp only [Sem.run_bind, q0, Result.andThen_ok, hs, if_neg n1, if_neg n2, hz, Sem.run_pure]
    have e3 : ((#[(0, x)] : Array (Nat × Operand)).map fun (i, y) => (i, a.eval y)).toList = [(0, v.den β)] := by simp [e1]
    simp only [e3, hf, Sem.run_bind, newRow, World.alloc_eq]
    simp [World.alloc_eq]
  unfold Oper.wp
  rw [hrun]
  have hs2 := hs0.alloc (r := .blob (OwnS e sz w.heap.size 1 1 xs)) trivial (.cells xs.toArray e) (fun β' hb => ⟨by simp, rfl, xs.toArray, by have := Row.new w e xs.toArray; unfold Row at this; exact this, Nat.le_refl _, by unfold maxLen; omega, by simp [hl], by simp [List.take_of_length_le, hl], by omega⟩) rfl
  have hs3 := hs2.put (d := d) (by simpa [Nat.blt_eq] using hd) (v := .any (.slice (some ⟨w.heap.size, 0, none⟩) 1 1)) rfl
  exact hn _ _ _ _ (h w.heap.size) hs3
theorem opx_append {C : Ctx} {d : Nat} {ty : TypeId} {pos : String} {after : Array Edge} {gd : Option (Nat × Bool)} {fr : List (Nat × SV)} {rows : List (Nat × Bool × SRow)} {nx n : Nat} {K : St → Prop}
    {x y : Operand} {t e : TypeId} {sz : Nat} (i j : Nat) {g n1 cap1 g2 m c2 : Nat} {xs ys : List Value} {inf : TypeInfo} {z : Value} (hd : Nat.blt d n = true)
    (ht : C.P.underlying t = some (.slice e)) (hi : C.P.info? e = some inf) (hz : inf.zero = some z) (hsize : inf.size = sz) (hzs : z.cells.size = sz) (h0 : 0 < sz)
    (hx : ev fr x = some (.any (.slice (some ⟨g, 0, none⟩) n1 cap1))) (hy : ev fr y = some (.any (.slice (some ⟨g2, 0, none⟩) m c2)))
    (ri : get rows i = some (true, .blob (OwnS e sz g n1 cap1 xs))) (rj : get rows j = some (true, .blob (OwnS e sz g2 m c2 ys)))
    (h63 : n1 + m ≤ maxLen) (hbytes : (n1 + m) * inf.bytes ≤ 140737488355328) (h1 : ∀ u ∈ ys, u.oneCell' = true) (hno : (mentF i fr || mentR i rows) = false) (hni : C.w0.n0 ≤ i)
    (h : ∀ g' cap', K ⟨(d, .any (.slice (some ⟨g', 0, none⟩) (n1 + m) cap')) :: fr, (i, true, .blob (OwnS e sz g' (n1 + m) cap' (xs ++ ys))) :: rows, nx, n⟩) :
    OpX C ⟨some d, .call ⟨.builtin .append, ⟨[x, y]⟩, ⟨[t, t]⟩⟩, ty, pos, after, gd⟩ ⟨fr, rows, nx, n⟩ K := by
  unfold OpX
  intro β a w hs next Q hnn0
  have hm := hs.mem
  obtain ⟨qi, -, qi3, qi4⟩ := hm.row i _ _ ri
  obtain ⟨qj, -, qj3, -⟩ := hm.row j _ _ rj
  have qi3 : i < nx := qi3
  have hown := OwnS.owns qi.2 (qi4 rfl)
  have hg : β i = g := qi.2.1
  have hnews := OwnS.cell qj.2
  have hml : ys.length = m * sz := by obtain ⟨-, cur, -, -, -, -, -, h6⟩ := qj.2; exact h6
  obtain ⟨v', w', hr, h2, h3, h4, h5⟩ := run_append_own_at (P := C.P) w C.base t ty e inf z sz inf.bytes ht hi hz hsize rfl hzs h0 _ n1 xs hown ⟨g2, 0, none⟩ m c2 ys hml hnews h1 h63 hbytes hm.base_le
  have hnn : ¬ v' = .slice none 0 0 := fun e0 => by have := (h4.1 e0).1; cases this
  obtain ⟨hlen, hor⟩ := h2
  rcases hor with ⟨e0, e1⟩ | ⟨g', cap', cur, rfl, hb', hc', hn', hm', hs', ht'⟩
  · exact absurd e0 hnn
  have hblk : g' = g ∨ g' = w.heap.size := by simpa [Value.ownBlock] using h5
  unfold Oper.wp
  have e1 := (ev_sound hs hx).1
  have e2 := (ev_sound hs hy).1
  have hrun : (execOp a.eval ⟨some d, .call ⟨.builtin .append, ⟨[x, y]⟩, ⟨[t, t]⟩⟩, ty, pos, after, gd⟩).run C.P w = .ok (.value (.slice (some ⟨g', 0, none⟩) (n1 + m) cap')) w' := by
    unfold execOp
    simp only [resolve, invoke, builtin, Sem.run_bind, Sem.run_pure, Result.andThen_ok, List.map_toArray, List.map_cons, List.map_nil, e1, e2, SV.den, hr]
  rw [hrun]
  have hgs : g < w.heap.size := by rw [← hg]; exact qi.1
  have hsz' : g' < w'.heap.size := by
    rcases Nat.lt_or_ge g' w'.heap.size with h0 | h0
    · exact h0
    · rw [Array.getElem?_eq_none h0] at hc'; cases hc'
  have hbg : C.base ≤ g := by rw [← hg]; exact qi4 rfl
  simp only [Bool.or_eq_false_iff] at hno
  have hβ : ∀ q, q ≠ i → (fun q => if q = i then g' else β q) q = β q := fun q hq => by dsimp only; rw [if_neg hq]
  have hapart : ∀ q o r, get rows q = some (o, r) → q ≠ i → β q ≠ g := fun q o r hq hne => by rw [← hg]; exact hm.inj i q _ o r ri hq hne
  have hother : ∀ p o r', get rows p = some (o, r') → p ≠ i → β p ≠ g' := fun p o r' hp hpi => by
    rcases hblk with e0 | e0
    · rw [e0]; exact hapart p o r' hp hpi
    · have := hm.lt p (hm.row p o r' hp).2.2.1; omega
  have hs2 : Sat C.base C.w0 ⟨fr, (i, true, .blob (OwnS e sz g' (n1 + m) cap' (xs ++ ys))) :: rows, nx, n⟩ (fun q => if q = i then g' else β q) a w' := by
    refine ⟨hs.defers, hs.size, fun s v hv => ?_, ⟨hm.below.os ▸ h3.os, hm.below.tape ▸ h3.tape, hm.below.output ▸ h3.output, Nat.le_trans hm.below.size h3.size, fun q hq => ?_⟩, Nat.le_trans hm.base_le h3.size, fun q o r hq => ?_, fun q hq => ?_, fun q p r o r' hq hp hpq => ?_, hm.n0, fun q hq => ?_, hm.pr.step (fun b hb hne => ⟨Nat.lt_of_lt_of_le hb h3.size, h3.block b hb (by simp [Value.ownBlock]; have := hne i _ ri; omega)⟩) fun q r hq => by
      rw [get_cons] at hq
      by_cases e0 : i = q
      · rcases hblk with e1 | e1
        · exact .inl ⟨i, _, ri, by rw [if_pos e0.symm, e1, hg]⟩
        · exact .inr (by rw [if_pos e0.symm, e1]; exact Nat.le_refl _)
      · rw [if_neg e0] at hq
        exact .inl ⟨q, r, hq, by rw [if_neg (fun e' => e0 e'.symm)]⟩⟩
    · obtain ⟨k1, k2⟩ := hs.slot s v hv
      exact ⟨by rw [k1, ment_den hβ v (mentF_get fr hno.1 hv)], k2⟩
    · rw [h3.block q (Nat.lt_of_lt_of_le hq hm.base_le) (by simp [Value.ownBlock]; omega)]; exact hm.below.block q hq
    · rw [get_cons] at hq
      by_cases e0 : i = q
      · rw [if_pos e0] at hq
        cases hq
        subst e0
        dsimp only
        rw [if_pos rfl]
        exact ⟨⟨hsz', rfl, cur, hc', hn', hm', hs', ht', hlen⟩, trivial, qi3, fun _ => hb'⟩
      · rw [if_neg e0] at hq
        obtain ⟨k1, k2, k3, k4⟩ := hm.row q o r hq
        have hqi : q ≠ i := fun e => e0 e.symm
        dsimp only
        rw [if_neg hqi]
        have k5 := RowIs_block (h3.block _ (hm.lt q k3) (by simp [Value.ownBlock]; exact hapart q o r hq hqi)) h3.size k1
        refine ⟨?_, k2, k3, k4⟩
        cases r with
        | cells t' cs => simp only [RowIs] at k5 ⊢; rw [ments_den hβ cs (mentR_get rows hno.2 hq)]; exact k5
        | blob Φ => exact k5
    · have hq : q < nx := hq
      by_cases e0 : q = i
      · rw [if_pos e0]; exact hsz'
      · rw [if_neg e0]; exact Nat.lt_of_lt_of_le (hm.lt q hq) h3.size
    · rw [get_cons] at hq hp
      by_cases e0 : i = q
      · rw [if_neg (by omega)] at hp
        rw [if_pos e0.symm, if_neg (by omega)]
        exact hother p o r' hp (by omega)
      · rw [if_neg e0] at hq
        rw [if_neg (by omega : ¬ q = i)]
        by_cases e2 : i = p
        · rw [if_pos e2.symm]; exact fun e3 => hother q _ _ hq (by omega) e3.symm
        · rw [if_neg e2] at hp
          rw [if_neg (by omega)]
          exact hm.inj q p r o r' hq hp hpq
    · rw [if_neg (by omega)]; exact hm.ext q hq
  have hs3 := hs2.put (d := d) (by simpa [Nat.blt_eq] using hd) (v := .any (.slice (some ⟨g', 0, none⟩) (n1 + m) cap')) rfl
  exact hnn0 _ _ _ _ (h g' cap') hs3
/-- the first append, to no slice at all -/
theorem opx_append0 {C : Ctx} {d : Nat} {ty : TypeId} {pos : String} {after : Array Edge} {gd : Option (Nat × Bool)} {fr : List (Nat × SV)} {rows : List (Nat × Bool × SRow)} {nx n : Nat} {K : St → Prop}
    {x y : Operand} {t e : TypeId} {sz : Nat} (j : Nat) {g2 m c2 : Nat} {ys : List Value} {inf : TypeInfo} {z : Value} (hd : Nat.blt d n = true)
    (ht : C.P.underlying t = some (.slice e)) (hi : C.P.info? e = some inf) (hz : inf.zero = some z) (hsize : inf.size = sz) (hzs : z.cells.size = sz) (h0 : 0 < sz)
    (hx : ev fr x = some (.any (.slice none 0 0))) (hy : ev fr y = some (.any (.slice (some ⟨g2, 0, none⟩) m c2)))
    (rj : get rows j = some (true, .blob (OwnS e sz g2 m c2 ys)))
    (h63 : m ≤ maxLen) (hbytes : m * inf.bytes ≤ 140737488355328) (h1 : ∀ u ∈ ys, u.oneCell' = true) (hm0 : 0 < m)
    (h : ∀ g' cap', K ⟨(d, .any (.slice (some ⟨g', 0, none⟩) m cap')) :: fr, (nx, true, .blob (OwnS e sz g' m cap' ys)) :: rows, nx + 1, n⟩) :
    OpX C ⟨some d, .call ⟨.builtin .append, ⟨[x, y]⟩, ⟨[t, t]⟩⟩, ty, pos, after, gd⟩ ⟨fr, rows, nx, n⟩ K := by
  unfold OpX
  intro β a w hs next Q hnn0
  have hm := hs.mem
  obtain ⟨qj, -, qj3, -⟩ := hm.row j _ _ rj
  have hnews := OwnS.cell qj.2
  have hml : ys.length = m * sz := by obtain ⟨-, cur, -, -, -, -, -, h6⟩ := qj.2; exact h6
  obtain ⟨v', w', hr, h2, h3, h4, h5⟩ := run_append_own_at (P := C.P) w C.base t ty e inf z sz inf.bytes ht hi hz hsize rfl hzs h0 _ 0 [] (owns_nil w C.base e sz) ⟨g2, 0, none⟩ m c2 ys hml hnews h1 (by omega) (by rw [Nat.zero_add]; exact hbytes) hm.base_le
  have hnn : ¬ v' = .slice none 0 0 := fun e0 => by have := (h4.1 e0).2; omega
  obtain ⟨hlen, hor⟩ := h2
  rcases hor with ⟨e0, e1⟩ | ⟨g', cap', cur, rfl, hb', hc', hn', hm', hs', ht'⟩
  · exact absurd e0 hnn
  have hblk : g' = w.heap.size := by simpa [Value.ownBlock] using h5
  unfold Oper.wp
  have e1 := (ev_sound hs hx).1
  have e2 := (ev_sound hs hy).1
  have hrun : (execOp a.eval ⟨some d, .call ⟨.builtin .append, ⟨[x, y]⟩, ⟨[t, t]⟩⟩, ty, pos, after, gd⟩).run C.P w = .ok (.value (.slice (some ⟨g', 0, none⟩) (0 + m) cap')) w' := by
    unfold execOp
    simp only [resolve, invoke, builtin, Sem.run_bind, Sem.run_pure, Result.andThen_ok, List.map_toArray, List.map_cons, List.map_nil, e1, e2, SV.den, hr]
  rw [hrun]
  simp only [Nat.zero_add, List.nil_append] at *
  have hsz' : g' < w'.heap.size := by
    rcases Nat.lt_or_ge g' w'.heap.size with h0 | h0
    · exact h0
    · rw [Array.getElem?_eq_none h0] at hc'; cases hc'
  have hbel : Below w.heap.size w w' := ⟨h3.os, h3.tape, h3.output, h3.size, fun k hk => h3.block k hk (by simp [Value.ownBlock])⟩
  have hs' : Sat C.base C.w0 ⟨fr, rows, nx, n⟩ β a w' := ⟨hs.defers, hs.size, hs.slot, hm.belowNext hbel⟩
  have hs2 := hs'.learn (o := true) (b := g') (Φ := OwnS e sz g' m cap' ys) hsz' ⟨rfl, cur, hc', hn', hm', by assumption, ht', hlen⟩ (fun _ => ⟨hb', fun i o' r hi => by have := hm.lt i (hm.row i o' r hi).2.2.1; omega⟩) (fun i r hi => by have := hm.lt i (hm.row i true r hi).2.2.1; omega) (fun _ q hq => by have := (hm.pr q hq).1; omega)
  have hs3 := hs2.put (d := d) (by simpa [Nat.blt_eq] using hd) (v := .any (.slice (some ⟨g', 0, none⟩) m cap')) rfl
  exact hnn0 _ _ _ _ (h g' cap') hs3
theorem flat_at {α : Type} {f : α → List Value} {sz : Nat} (hf : ∀ x, (f x).length = sz) : ∀ (L : List α) (k m : Nat) (x : α), L[k]? = some x → m < sz → (L.flatMap f)[k * sz + m]? = (f x)[m]?
  | [], k, m, x, h, _ => by simp at h
  | y :: L, 0, m, x, h, hm => by
    simp only [List.getElem?_cons_zero, Option.some.injEq] at h
    subst h
    rw [List.flatMap_cons, Nat.zero_mul, Nat.zero_add, List.getElem?_append_left (by rw [hf]; exact hm)]
  | y :: L, k + 1, m, x, h, hm => by
    rw [List.flatMap_cons, List.getElem?_append_right (by rw [hf, Nat.succ_mul]; omega), hf]
    have e : (k + 1) * sz + m - sz = k * sz + m := by rw [Nat.succ_mul]; omega
    rw [e]
    exact flat_at hf L k m x (by simpa using h) hm
theorem flat_len {α : Type} {f : α → List Value} {sz : Nat} (hf : ∀ x, (f x).length = sz) (L : List α) : (L.flatMap f).length = L.length * sz := by
  induction L with
  | nil => simp
  | cons x L ih => rw [List.flatMap_cons, List.length_append, ih, hf, List.length_cons, Nat.succ_mul]; omega
end Sym
end Go.Proofs.YtnbahdnjcdimgaaDoor
namespace Go.Proofs.YtnbahdnjcdimgaaDoor
open Go.RowKit
namespace Sym
/-- the head of a builder that has been written to -/
def BldH (T : TypeId) (g n cap : Nat) (b : Nat) (o : Option Obj) : Prop := o = some (.cells #[.pointer (some ⟨b, 0, none⟩), .slice (some ⟨g, 0, none⟩) n cap] T (0, 0)) ∧ g ≠ b
/-- its bytes -/
def BldB (e : TypeId) (g n cap : Nat) (bs : List Value) (b : Nat) (o : Option Obj) : Prop := b = g ∧ n = bs.length ∧ ∃ cur fz, o = some (.cells cur e fz) ∧ fz.2 ≤ n * 1 ∧ n ≤ cap ∧ cap ≤ maxLen ∧ cur.size = cap * 1 ∧ cur.toList.take (n * 1) = bs
theorem bld_at {T e : TypeId} {g n cap : Nat} {bs : List Value} {b c base : Nat} {w : World} (h1 : BldH T g n cap b w.heap[b]?) (h2 : BldB e g n cap bs c w.heap[c]?) (hb : base ≤ b) (hc : base ≤ c) : Lib.BuilderAtF T e base b (.pointer (some ⟨b, 0, none⟩)) bs w := by
  obtain ⟨h1, hne⟩ := h1
  obtain ⟨rfl, rfl, cur, fz, k1, k2, k3, k4, k5, k6⟩ := h2
  exact ⟨hb, _, h1, ⟨by simp, .inr ⟨c, cap, cur, fz, rfl, hc, k1, k2, k3, k4, k5, k6⟩⟩, by simp [Value.ownBlock]; exact hne⟩
theorem bld_sat {C : Ctx} {fr : List (Nat × SV)} {rows : List (Nat × Bool × SRow)} {nx n : Nat} {β : Nat → Nat} {a : Act} {w w' : World} (hs : Sat C.base C.w0 ⟨fr, rows, nx, n⟩ β a w) {i j nx' : Nat} {T e : TypeId} {bs' : List Value}
    (hb : Lib.BuilderAtF T e C.base (β i) (.pointer (some ⟨β i, 0, none⟩)) bs' w') (hl : bs' ≠ []) (hbel : Below C.base w w') (hi : i < nx) (hij : i ≠ j) (hnx : nx ≤ nx') (hjn : j < nx') (hq : ∀ q, q < nx' → q = j ∨ q < nx) (hn0 : C.w0.n0 ≤ j)
    (hden : ∀ β' : Nat → Nat, (∀ q, q ≠ j → β' q = β q) → ∀ s v, get fr s = some v → v.den β' = v.den β) (hpr : ∀ b, ¬ C.w0.pr b) :
    ∃ g n' cap', ∃ β' : Nat → Nat, (∀ q, q ≠ j → β' q = β q) ∧ Sat C.base C.w0 ⟨fr, [(i, true, .blob (BldH T g n' cap')), (j, true, .blob (BldB e g n' cap' bs'))], nx', n⟩ β' a w' := by
  obtain ⟨hB, v, hbk, ⟨hlen, hor⟩, hneq⟩ := hb
  rcases hor with ⟨_, h0⟩ | ⟨g, cap, cur, fz, rfl, hg, hgc, k2, k3, k4, k5, k6⟩
  · exact absurd (List.length_eq_zero_iff.1 h0) hl
  have hgi : g ≠ β i := fun e0 => hneq (by simp [Value.ownBlock, e0])
  have hm := hs.mem
  have hgs : g < w'.heap.size := by
    rcases Nat.lt_or_ge g w'.heap.size with h0 | h0
    · exact h0
    · rw [Array.getElem?_eq_none h0] at hgc; cases hgc
  have hβ : ∀ q, q ≠ j → (fun q => if q = j then g else β q) q = β q := fun q hq => by dsimp only; rw [if_neg hq]
  refine ⟨g, bs'.length, cap, fun q => if q = j then g else β q, hβ, ⟨hs.defers, hs.size, fun s u hu => ?_, ⟨hm.below.trans hbel, Nat.le_trans hm.base_le hbel.size, fun q o r hr => ?_, fun q hqn => ?_, fun p q r o r' hp hqq hne => ?_, Nat.le_trans hm.n0 hnx, fun q hqn => ?_, fun q hq => absurd hq (hpr q)⟩⟩⟩
  · obtain ⟨e1, e2⟩ := hs.slot s u hu
    exact ⟨e1.trans (hden _ hβ s u hu).symm, SV.ok_mono hnx u e2⟩
  · simp only [get_cons] at hr
    by_cases e1 : i = q
    · rw [if_pos e1] at hr
      cases hr
      subst e1
      rw [if_neg hij]
      refine ⟨⟨Nat.lt_of_lt_of_le (hm.lt i hi) hbel.size, hbk, hgi⟩, trivial, Nat.lt_of_lt_of_le hi hnx, fun _ => hB⟩
    · rw [if_neg e1] at hr
      by_cases e2 : j = q
      · rw [if_pos e2] at hr
        cases hr
        subst e2
        rw [if_pos rfl]
        exact ⟨⟨hgs, rfl, rfl, cur, fz, hgc, k2, k3, k4, k5, k6⟩, trivial, hjn, fun _ => hg⟩
      · rw [if_neg e2] at hr; simp [get] at hr
  · split
    · exact hgs
    · rename_i e1
      rcases hq q hqn with e2 | e2
      · exact absurd e2 e1
      · exact Nat.lt_of_lt_of_le (hm.lt q e2) hbel.size
  · simp only [get_cons] at hp hqq
    by_cases e1 : i = p
    · subst e1
      by_cases e2 : j = q
      · subst e2
        rw [if_pos rfl, if_neg hij]; exact hgi
      · rw [if_neg (fun e => hne e.symm), if_neg e2] at hqq; simp [get] at hqq
    · rw [if_neg e1] at hp
      by_cases e2 : j = p
      · subst e2
        by_cases e3 : i = q
        · subst e3
          rw [if_neg hij, if_pos rfl]; exact fun e => hgi e.symm
        · rw [if_neg e3, if_neg (fun e => hne e.symm)] at hqq; simp [get] at hqq
      · rw [if_neg e2] at hp; simp [get] at hp
  · have : ¬ q = j := by have hqn : q < C.w0.n0 := hqn; omega
    rw [if_neg this]; exact hm.ext q hqn
theorem callX_bld {C : Ctx} {d : Nat} {f : FuncId} {args : List SV} {fr : List (Nat × SV)} {rows : List (Nat × Bool × SRow)} {nx n : Nat} {K : St → Prop} (V : SV) (i j : Nat) {T e : TypeId} {g m cap : Nat} {bs bs' : List Value}
    (he : entersB C.P f = true) (hd : Nat.blt d n = true) (hv : V.ok nx ∧ ment j V = false) (hi : get rows i = some (true, .blob (BldH T g m cap))) (hj : get rows j = some (true, .blob (BldB e g m cap bs))) (hij : i ≠ j) (hn0 : C.w0.n0 ≤ j) (hno : mentF j fr = false) (hl : bs' ≠ [])
    (hc : ∀ β w, Mem C.base C.w0 rows nx β w → Lib.BuilderAtF T e C.base (β i) (.pointer (some ⟨β i, 0, none⟩)) bs w → Calls C.P f (SV.dens β args).toArray w fun e' w' => e' = .returned (V.den β) ∧ Lib.BuilderAtF T e C.base (β i) (.pointer (some ⟨β i, 0, none⟩)) bs' w' ∧ Below C.base w w')
    (h : ∀ g' n' cap', K ⟨(d, V) :: fr, [(i, true, .blob (BldH T g' n' cap')), (j, true, .blob (BldB e g' n' cap' bs'))], nx, n⟩) (hpr : ∀ b, ¬ C.w0.pr b := by exact fun _ h => h) : CallX C (some d) f args ⟨fr, rows, nx, n⟩ K := by
  unfold CallX
  refine ⟨he, fun β a w hs => ?_⟩
  have hm := hs.mem
  obtain ⟨qi, -, qi3, qi4⟩ := hm.row i _ _ hi
  obtain ⟨qj, -, qj3, qj4⟩ := hm.row j _ _ hj
  refine (hc β w hm (bld_at qi.2 qj.2 (qi4 rfl) (qj4 rfl))).mono ?_
  rintro e' w' ⟨rfl, hb, hbel⟩
  obtain ⟨g', n', cap', β', hβ, hs2⟩ := bld_sat hs hb hl hbel qi3 hij (Nat.le_refl nx) qj3 (fun q hq => .inr hq) hn0 (fun β' hβ s v hv => ment_den hβ v (mentF_get fr hno hv)) hpr
  have hs3 := hs2.put (d := d) (by simpa [Nat.blt_eq] using hd) hv.1
  rw [ment_den hβ V hv.2] at hs3
  exact ⟨_, _, _, rfl, h g' n' cap', hs3⟩
/-- the first writing -/
theorem callX_bld0 {C : Ctx} {d : Nat} {f : FuncId} {args : List SV} {fr : List (Nat × SV)} {rows : List (Nat × Bool × SRow)} {nx n : Nat} {K : St → Prop} (V : SV) (i : Nat) {T e : TypeId} {bs' : List Value}
    (he : entersB C.P f = true) (hd : Nat.blt d n = true) (hv : V.ok nx) (hi : get rows i = some (true, .cells T [.any (.pointer none), .any (.slice none 0 0)])) (hl : bs' ≠ [])
    (hc : ∀ β w, Mem C.base C.w0 rows nx β w → Lib.IsBuilderF T e C.base (β i) [] w → Calls C.P f (SV.dens β args).toArray w fun e' w' => e' = .returned (V.den β) ∧ Lib.BuilderAtF T e C.base (β i) (.pointer (some ⟨β i, 0, none⟩)) bs' w' ∧ Below C.base w w')
    (h : ∀ g' n' cap', K ⟨(d, V) :: fr, [(i, true, .blob (BldH T g' n' cap')), (nx, true, .blob (BldB e g' n' cap' bs'))], nx + 1, n⟩) (hpr : ∀ b, ¬ C.w0.pr b := by exact fun _ h => h) : CallX C (some d) f args ⟨fr, rows, nx, n⟩ K := by
  unfold CallX
  refine ⟨he, fun β a w hs => ?_⟩
  have hm := hs.mem
  obtain ⟨qi, -, qi3, qi4⟩ := hm.row i _ _ hi
  have qi3 : i < nx := qi3
  have q1 : Row w (β i) T (SV.dens β [.any (.pointer none), .any (.slice none 0 0)]).toArray := qi
  refine (hc β w hm (.inl ⟨qi4 rfl, .slice none 0 0, q1, ⟨rfl, .inl ⟨rfl, rfl⟩⟩, by simp [Value.ownBlock]⟩)).mono ?_
  rintro e' w' ⟨rfl, hb, hbel⟩
  obtain ⟨g', n', cap', β', hβ, hs2⟩ := bld_sat (j := nx) hs hb hl hbel qi3 (by omega) (Nat.le_succ nx) (Nat.lt_succ_self nx) (fun q hq => by omega) hm.n0 (fun β' hβ s v hv => SV.den_ext (n := nx) (fun q hq => hβ q (by omega)) v (hs.slot s v hv).2) hpr
  have hs3 := hs2.put (d := d) (by simpa [Nat.blt_eq] using hd) (SV.ok_mono (Nat.le_succ _) V hv)
  rw [SV.den_ext (n := nx) (fun q hq => hβ q (by omega)) V hv] at hs3
  exact ⟨_, _, _, rfl, h g' n' cap', hs3⟩
end Sym
end Go.Proofs.YtnbahdnjcdimgaaDoor
namespace Go.Proofs.YtnbahdnjcdimgaaDoor
open Go.RowKit
namespace Sym
end Sym
end Go.Proofs.YtnbahdnjcdimgaaDoor
namespace Go.Proofs.YtnbahdnjcdimgaaDoor
open Go.RowKit
namespace Sym
theorem x_loadO {C : Ctx} {G : Blobs} {x : Operand} {t e : TypeId} {sz g m cap p : Nat} {xs : List Value} (i : Nat) (v : SV) (hag : ∀ w, (isAgg t).run C.P w = .ok false w) (ri : G i = some (OwnS e sz g m cap xs)) (hv : ∀ β, xs[p]? = some (v.den β)) :
    ExtN C G (.load t x) [.any (.pointer (some ((⟨g, 0, none⟩ : Addr).add p)))] v := by
  unfold ExtN
  intro ρ β w dst ty pos after gd _ hG h
  have e1 : ρ x = .pointer (some ((⟨g, 0, none⟩ : Addr).add p)) := by simpa [opsX, SV.dens, SV.den] using h
  obtain ⟨h1, h2⟩ := hG i _ ri
  have hc := OwnS.cell h2 p _ (hv β)
  simp [execOp, Instr.loadAt, Instr.sureAddr, e1, loadVar, hag, hc]
/-- part of a slice -/
theorem add_zero (a : Addr) : a.add 0 = a := by unfold Addr.add; split <;> simp_all
theorem x_sub {C : Ctx} {G : Blobs} {x hi : Operand} {t e : TypeId} {sz : Nat} {a : Option Addr} {len cap j : Nat} {kd : IntKind} {i : Int} (hi0 : i = (j : Nat)) (ht : C.P.underlying t = some (.slice e)) (hs : ∀ w, (sizeOf e).run C.P w = .ok sz w) (hj : j ≤ cap) :
    ExtN C G (.slice t x none (some hi) none) [.any (.slice a len cap), .int kd i] (.any (.slice a j cap)) := by
  subst hi0
  unfold ExtN
  intro ρ β w dst ty pos after gd _ hG h
  have h' : ρ x = .slice a len cap ∧ ρ hi = .int kd (j : Nat) := by simpa [opsX, optL, SV.dens, SV.den] using h
  have he : C.P.elem t = e := by simp [Program.elem, ht]
  have ht' : C.P.underlying t = some (.slice (C.P.elem t)) := by rw [he]; exact ht
  have h1 := run_slice_h (P := C.P) (w := w) t a len cap ht' kd (j : Nat) (by omega) (by omega)
  rw [he, hs] at h1
  have h2 : sliced a 0 ((j : Nat) : Int).toNat cap sz = .slice a j cap := by
    unfold sliced
    have : (if cap = 0 then a else a.map (·.add (0 * sz))) = a := by
      split
      · rfl
      · cases a <;> simp [add_zero]
    rw [this]; simp
  have h3 : (Instr.sliceAt t (.slice a len cap) none (some (.int kd (j : Nat))) none).run C.P w = .ok (.slice a j cap) w := by
    rw [run_sliceAt_slice (P := C.P) (w := w) t _ _ _ _ ht', h1, Result.andThen_ok, h2]
  simp [execOp, h'.1, h'.2, h3, SV.den]
/-- a cell of one's own slice is written -/
theorem Sat.setBlob {base : Nat} {w0 : Base} {β : Nat → Nat} {a : Act} {w : World} {i : Nat} {Φ Φ' : Nat → Option Obj → Prop} {t : TypeId} {cs' : Array Value} {cs : Array Value} {fr : List (Nat × SV)} {rows : List (Nat × Bool × SRow)} {nx n : Nat} (hs : Sat base w0 ⟨fr, rows, nx, n⟩ β a w) (hi : get rows i = some (true, .blob Φ)) (hr : w.heap[β i]? = some (.cells cs t (0, 0)))
    (hΦ : Φ' (β i) (some (.cells cs' t (0, 0)))) :
    Sat base w0 ⟨fr, (i, true, .blob Φ') :: rows, nx, n⟩ β a (w.setRow (β i) cs') := by
  obtain ⟨h1, h2, h3, h4⟩ := hs
  obtain ⟨k1, k2, k3, k4⟩ := h4.row i true _ hi
  have k3 : i < nx := k3
  have k4 := k4 rfl
  refine ⟨h1, h2, h3, ?_⟩
  refine ⟨h4.below.trans ⟨rfl, rfl, rfl, by rw [setRow_size]; exact Nat.le_refl _, fun k hk => setRow_other _ (by omega)⟩, by rw [setRow_size]; exact h4.base_le, fun j ow r hj => ?_, fun j hj => by rw [setRow_size]; exact h4.lt j hj, fun j l r ol rl hj hl hlj => ?_, h4.n0, h4.ext, h4.pr.write hi (setRow_size _) (fun b hb => setRow_other _ hb)⟩
  · rw [get_cons] at hj
    by_cases e : i = j
    · rw [if_pos e] at hj
      cases hj
      subst e
      refine ⟨⟨by rw [setRow_size]; exact k1.1, ?_⟩, trivial, k3, fun _ => k4⟩
      have : (w.setRow (β i) cs').heap[β i]? = some (.cells cs' t (0, 0)) := setRow_heap w _ _ _ _ _ hr
      rw [this]; exact hΦ
    · rw [if_neg e] at hj
      obtain ⟨m1, m2, m3, m4⟩ := h4.row j ow r hj
      have m3 : j < nx := m3
      have hne : β j ≠ β i := h4.inj i j _ ow r hi hj (fun e' => e e'.symm)
      refine ⟨?_, m2, m3, m4⟩
      cases r with
      | cells t2 c2 =>
        simp only [RowIs] at m1 ⊢
        unfold Row at m1 ⊢
        rw [setRow_other _ hne]; exact m1
      | blob Φ =>
        obtain ⟨q1, q2⟩ := m1
        exact ⟨by rw [setRow_size]; exact q1, by rw [setRow_other _ hne]; exact q2⟩
  · have hj' : ∃ r0, get rows j = some (true, r0) := by
      rw [get_cons] at hj
      by_cases e : i = j
      · subst e; exact ⟨_, hi⟩
      · rw [if_neg e] at hj; exact ⟨_, hj⟩
    have hl' : ∃ o0 r0, get rows l = some (o0, r0) := by
      rw [get_cons] at hl
      by_cases e : i = l
      · subst e; exact ⟨_, _, hi⟩
      · rw [if_neg e] at hl; exact ⟨_, _, hl⟩
    obtain ⟨r0, hj'⟩ := hj'
    obtain ⟨o1, r1, hl'⟩ := hl'
    exact h4.inj j l r0 o1 r1 hj' hl' hlj
theorem opx_store {C : Ctx} (hE : EnvOK C.P C.E) {ty : TypeId} {pos : String} {after : Array Edge} {gd : Option (Nat × Bool)} {fr : List (Nat × SV)} {rows : List (Nat × Bool × SRow)} {nx n : Nat} {K : St → Prop}
    {t e : TypeId} {x y : Operand} (i : Nat) {p g m cap : Nat} {xs : List Value} {v : SV} {u : Value} {kd : TK} {ag : Bool} {z : List SV}
    (hx : ev fr x = some (.any (.pointer (some ((⟨g, 0, none⟩ : Addr).add p))))) (hy : ev fr y = some v) (hc : cellsSV v = some [v]) (ho : v.one = true) (hu : ∀ β, v.den β = u) (ht : get C.E t = some ⟨kd, 1, ag, z⟩)
    (ri : get rows i = some (true, .blob (OwnS e 1 g m cap xs))) (hp : p < m)
    (h : K ⟨fr, (i, true, .blob (OwnS e 1 g m cap (xs.set p u))) :: rows, nx, n⟩) : OpX C ⟨none, .store t x y, ty, pos, after, gd⟩ ⟨fr, rows, nx, n⟩ K := by
  unfold OpX
  intro β a w hs next Q hn
  have ht' := env_get hE ht
  obtain ⟨ex, _⟩ := ev_sound hs hx
  obtain ⟨ey, oy⟩ := ev_sound hs hy
  obtain ⟨ec, oc⟩ := cells_sound (β := β) hc oy
  have hm := hs.mem
  obtain ⟨k1, k2, k3, k4⟩ := hm.row i true _ ri
  obtain ⟨q0, cur, q1, q2, q3, q4, q5, q6⟩ := k1.2
  have hrow : Row w g e cur := by unfold Row; rw [← q0]; exact q1
  have hlt : p < cur.size := by omega
  have hst := run_storeCells_at (P := C.P) g p e (SV.dens β [v]) 0 cur w hrow (by simp [SV.dens]; omega) (allOne_sound (n := nx) (by simp [allOne, ho]) ⟨oy, trivial⟩)
  have hcs : (cur.toList.take (p + 0) ++ SV.dens β [v] ++ cur.toList.drop (p + 0 + (SV.dens β [v]).length)).toArray = cur.setIfInBounds p u := by
    apply Array.toList_inj.1
    rw [Array.toList_setIfInBounds]
    simp only [SV.dens, hu, Nat.add_zero, List.length_cons, List.length_nil, List.toList_toArray]
    rw [List.set_eq_take_append_cons_drop, if_pos (by simpa using hlt)]
    simp
  rw [hcs] at hst
  have hst2 : (storeVar t ⟨g, p, none⟩ (v.den β)).run C.P w = .ok () (w.setRow g (cur.setIfInBounds p u)) := by
    simp only [storeVar, Sem.run_bind, ht'.size, Result.andThen_ok, ec]
    rw [if_neg (by simp [SV.dens])]
    exact hst
  rw [add_at] at ex
  simp only [SV.den, Nat.zero_add] at ex
  unfold Oper.wp
  have : (execOp a.eval ⟨none, .store t x y, ty, pos, after, gd⟩).run C.P w = .ok .skip (w.setRow g (cur.setIfInBounds p u)) := by
    simp [execOp, Instr.storeAt, ex, ey, Instr.sureAddr, hst2]
  rw [this]
  show next (a.put none undef) _
  have hs2 := hs.setBlob (Φ' := OwnS e 1 g m cap (xs.set p u)) (cs' := cur.setIfInBounds p u) ri q1 ⟨q0, _, rfl, q2, q3, by simpa using q4, by rw [Array.toList_setIfInBounds, ← q5, List.take_set], by simpa using q6⟩
  rw [q0] at hs2
  exact hn _ _ _ _ h hs2
/-- what a slice shows, and that it is not older than base -/
def SlF (base : Nat) (a : Option Addr) (xs : List Value) (b : Nat) (o : Option Obj) : Prop := SlB a xs b o ∧ (xs ≠ [] → base ≤ b)
def FreshX (a : Option Addr) (xs : List Value) (w : World) : Prop := xs ≠ [] → Fresh a w
theorem SlAt.toF {a : Option Addr} {xs : List Value} {w w' : World} {base : Nat} (h : SlAt a xs w') (hf : FreshX a xs w) (hbw : base ≤ w.heap.size) (h0 : 0 < base) (hb : base ≤ w'.heap.size) : ∃ b, (w.heap.size ≤ b ∨ b < base) ∧ b < w'.heap.size ∧ SlF base a xs b w'.heap[b]? := by
  cases xs with
  | nil => exact ⟨0, .inr h0, by omega, fun _ _ i v hi => by simp at hi, fun h => absurd rfl h⟩
  | cons x r =>
    obtain ⟨ad, e, h1, _⟩ := h 0 x rfl
    have hf := hf (by simp)
    refine ⟨ad.block, .inl (hf ad e), h1, fun W hW i v hi => ?_, fun _ => Nat.le_trans hbw (hf ad e)⟩
    obtain ⟨ad', e', h2, h3⟩ := h i v hi
    rw [e] at e'
    cases e'
    exact ⟨ad, e, rfl, by rw [World.cell?_of_block (w := w') (by rw [add_block]; exact hW)]; exact h3⟩
theorem SlF.at {base : Nat} {a : Option Addr} {xs : List Value} {b : Nat} {w : World} (h : SlF base a xs b w.heap[b]?) (hb : b < w.heap.size) : SlAt a xs w := h.1.at hb
theorem SlF.fresh {base : Nat} {a : Option Addr} {xs : List Value} {b : Nat} {w w0 : World} (h : SlF base a xs b w.heap[b]?) (e : w0.heap.size = base) : FreshX a xs w0 := fun hx ad ha => by
  obtain ⟨x, r, rfl⟩ := List.exists_cons_of_ne_nil hx
  obtain ⟨ad', e', h2, -⟩ := h.1 w rfl 0 x rfl
  rw [ha] at e'
  cases e'
  have := h.2 hx
  omega
/-- a call that answers with a slice of its own making, among others -/
theorem callSlF {C : Ctx} {d : Nat} {f : FuncId} {args : List SV} {fr : List (Nat × SV)} {rows : List (Nat × Bool × SRow)} {nx n : Nat} {K : St → Prop} {T : Type}
    (V : T → SV) (A : T → Option Addr) (X : T → List Value) (h0 : 0 < C.base)
    (he : entersB C.P f = true) (hd : Nat.blt d n = true) (hv : ∀ t, (V t).ok nx) (hc : ∀ β w, Mem C.base C.w0 rows nx β w → Calls C.P f (SV.dens β args).toArray w fun e w' => Below w.heap.size w w' ∧ ∃ t, e = .returned ((V t).den β) ∧ SlAt (A t) (X t) w' ∧ FreshX (A t) (X t) w)
    (h : ∀ t, (X t ≠ [] → ∃ ad, A t = some ad) → K ⟨(d, V t) :: fr, (nx, false, .blob (SlF C.base (A t) (X t))) :: rows, nx + 1, n⟩) : CallX C (some d) f args ⟨fr, rows, nx, n⟩ K := by
  unfold CallX
  refine ⟨he, fun β a w hs => (hc β w hs.mem).mono ?_⟩
  rintro e w' ⟨hb, t, rfl, hsl, hfr⟩
  have hm := hs.mem
  obtain ⟨b, h1, h2, h3⟩ := hsl.toF hfr hm.base_le h0 (Nat.le_trans hm.base_le hb.size)
  have hs' : Sat C.base C.w0 ⟨fr, rows, nx, n⟩ β a w' := ⟨hs.defers, hs.size, hs.slot, hm.belowNext hb⟩
  have hs2 := hs'.learn (o := false) h2 h3 (fun e => by cases e) (fun i r hi => by
    have := hm.lt i (hm.row i true r hi).2.2.1
    have := (hm.row i true r hi).2.2.2 rfl
    omega)
  have hs3 := hs2.put (d := d) (by simpa [Nat.blt_eq] using hd) (SV.ok_mono (Nat.le_succ _) _ (hv t))
  have e1 : (V t).den (fun i => if i = nx then b else β i) = (V t).den β := SV.den_ext (n := nx) (fun i hi => by rw [if_neg (by omega)]) _ (hv t)
  rw [e1] at hs3
  exact ⟨_, _, _, rfl, h t (fun hx => hsl.some hx), hs3⟩
end Sym
end Go.Proofs.YtnbahdnjcdimgaaDoor
namespace Go.Proofs.YtnbahdnjcdimgaaDoor
namespace ExP
def dig (b k x : Nat) : Nat := x / b ^ k % b
def tab {α : Type} (n : Nat) (f : Nat → α) : List α := (List.range n).map f
def dgN (b n x : Nat) : List Nat := tab n (fun k => dig b k x)
theorem mod_next (b i x : Nat) : x % b ^ (i + 1) = x % b ^ i + dig b i x * b ^ i := by
  rw [Nat.mod_pow_succ, dig, Nat.mul_comm]
/-- a digit set anew -/
def upd (b V j d : Nat) : Nat := V % b ^ j + d * b ^ j + V / b ^ (j + 1) * b ^ (j + 1)
theorem parts (b V j : Nat) : V = V % b ^ j + dig b j V * b ^ j + V / b ^ (j + 1) * b ^ (j + 1) := by
  have h := Nat.mod_add_div V (b ^ (j + 1))
  rw [mod_next, Nat.mul_comm] at h
  rw [Nat.mul_comm (V / b ^ (j + 1))]
  rw [Nat.mul_comm] at h
  omega
/-- how many digits -/
def ndF (b : Nat) : Nat → Nat → Nat
  | 0, _ => 0
  | f + 1, x => if x = 0 then 0 else ndF b f (x / b) + 1
def nd (b x : Nat) : Nat := ndF b x x
def dg (b x : Nat) : List Nat := dgN b (nd b x) x
/-- sums -/
structure PlusI (b x y i c S : Nat) : Prop where
  eq : S + c * b ^ i = x % b ^ i + y % b ^ i
  lt : S < b ^ i
  top : i = 0 ∨ b ^ (i - 1) ≤ x + y
/-- differences -/
structure MinusI (b x y i c D : Nat) : Prop where
  eq : y % b ^ i + D = x % b ^ i + c * b ^ i
  lt : D < b ^ i
  bit : c ≤ 1
end ExP
end Go.Proofs.YtnbahdnjcdimgaaDoor
namespace Go.Proofs.YtnbahdnjcdimgaaDoor
open Go.RowKit
namespace Sym
open ExP (nd dig dg dgN tab)
def valsK (k : IntKind) (l : List Nat) : List Value := l.map fun (d : Nat) => Value.int k (d : Int)
abbrev nv (k : IntKind) (b x : Nat) : List Value := valsK k (dg b x)
theorem sl_nil (a : Option Addr) (w : World) : SlAt a [] w := fun i v h => by simp at h
theorem Mem.slF {base : Nat} {w0 : Base} {rows : List (Nat × Bool × SRow)} {nx : Nat} {β : Nat → Nat} {w : World} (hm : Mem base w0 rows nx β w) (j : Nat) {o : Bool} {bs : Nat} {a : Option Addr} {xs : List Value} (hj : get rows j = some (o, .blob (SlF bs a xs))) : SlAt a xs w :=
  (hm.row j _ _ hj).1.2.at (hm.row j _ _ hj).1.1
theorem Mem.own {base : Nat} {w0 : Base} {rows : List (Nat × Bool × SRow)} {nx : Nat} {β : Nat → Nat} {w : World} (hm : Mem base w0 rows nx β w) (j : Nat) {e : TypeId} {sz g n cap : Nat} {xs : List Value} (hj : get rows j = some (true, .blob (OwnS e sz g n cap xs))) :
    SlAt (some ⟨g, 0, none⟩) xs w ∧ base ≤ g ∧ n ≤ cap := by
  obtain ⟨h1, -, -, h4⟩ := hm.row j _ _ hj
  refine ⟨h1.2.slAt h1.1, by rw [← h1.2.1]; exact h4 rfl, ?_⟩
  obtain ⟨-, cur, -, h, -⟩ := h1.2
  exact h
/-- a cell of a slice that a call has made, read -/
theorem x_loadF {C : Ctx} {G : Blobs} {x : Operand} {t : TypeId} {a : Addr} {j bs : Nat} {xs : List Value} (i : Nat) (v : SV) (hag : ∀ w, (isAgg t).run C.P w = .ok false w) (ri : G i = some (SlF bs (some a) xs)) (hv : ∀ β, xs[j]? = some (v.den β)) :
    ExtN C G (.load t x) [.any (.pointer (some (a.add j)))] v := by
  unfold ExtN
  intro ρ β w dst ty pos after gd _ hG h
  have e1 : ρ x = .pointer (some (a.add j)) := by simpa [opsX, SV.dens, SV.den] using h
  obtain ⟨h1, h2, -⟩ := hG i _ ri
  obtain ⟨ad, e, _, hc⟩ := h2 w rfl j _ (hv β)
  cases e
  simp [execOp, Instr.loadAt, Instr.sureAddr, e1, loadVar, hag, hc]
/-- a slice of one's own is lengthened by what another one shows -/
theorem opx_appendW {C : Ctx} {d : Nat} {ty : TypeId} {pos : String} {after : Array Edge} {gd : Option (Nat × Bool)} {fr : List (Nat × SV)} {rows : List (Nat × Bool × SRow)} {nx n : Nat} {K : St → Prop}
    {x y : Operand} {t e : TypeId} {sz : Nat} (i : Nat) {g n1 cap1 m c2 : Nat} {y0 : Option Addr} {xs ys : List Value} {inf : TypeInfo} {z : Value} (hd : Nat.blt d n = true)
    (ht : C.P.underlying t = some (.slice e)) (hi : C.P.info? e = some inf) (hz : inf.zero = some z) (hsize : inf.size = sz) (hzs : z.cells.size = sz) (h0 : 0 < sz)
    (hx : ev fr x = some (.any (.slice (some ⟨g, 0, none⟩) n1 cap1))) (hy : ev fr y = some (.any (.slice y0 m c2)))
    (ri : get rows i = some (true, .blob (OwnS e sz g n1 cap1 xs))) (hyn : y0 = none → c2 = 0) (hyl : ys.length = m * sz) (hys : ∀ β w, Mem C.base C.w0 rows nx β w → SlAt y0 ys w)
    (h63 : n1 + m ≤ maxLen) (hbytes : (n1 + m) * inf.bytes ≤ 140737488355328) (h1 : ∀ u ∈ ys, u.oneCell' = true) (hno : (mentF i fr || mentR i rows) = false) (hni : C.w0.n0 ≤ i)
    (h : ∀ g' cap', K ⟨(d, .any (.slice (some ⟨g', 0, none⟩) (n1 + m) cap')) :: fr, (i, true, .blob (OwnS e sz g' (n1 + m) cap' (xs ++ ys))) :: rows, nx, n⟩) :
    OpX C ⟨some d, .call ⟨.builtin .append, ⟨[x, y]⟩, ⟨[t, t]⟩⟩, ty, pos, after, gd⟩ ⟨fr, rows, nx, n⟩ K := by
  unfold OpX
  intro β a w hs next Q hnn0
  have hm := hs.mem
  obtain ⟨qi, -, qi3, qi4⟩ := hm.row i _ _ ri
  have qi3 : i < nx := qi3
  have hown := OwnS.owns qi.2 (qi4 rfl)
  have hg : β i = g := qi.2.1
  have hyw := hys β w hm
  have e1 := (ev_sound hs hx).1
  have e2 := (ev_sound hs hy).1
  have key : ∃ v' w', (Builtin.append_ #[t, t] ty #[.slice (some ⟨g, 0, none⟩) n1 cap1, .slice y0 m c2]).run C.P w = .ok v' w' ∧ w'.ownsRow C.base e sz v' (n1 + m) (xs ++ ys) ∧ w.grownBy w' (some g) ∧ v' ≠ .slice none 0 0 ∧ (v'.ownBlock = some g ∨ v'.ownBlock = some w.heap.size) := by
    cases y0 with
    | none =>
      have hc2 := hyn rfl
      have hys0 : ys = [] := by
        cases ys with
        | nil => rfl
        | cons u r => obtain ⟨ad, e0, -⟩ := hyw 0 u rfl; cases e0
      subst hys0
      have hm0 : m = 0 := by
        rcases Nat.eq_zero_or_pos m with h' | h'
        · exact h'
        · have := Nat.mul_pos h' h0; simp at hyl; omega
      subst hm0 hc2
      have hr := run_append_owned_none (P := C.P) (w := w) C.base t ty e inf sz ht hi _ n1 xs hown
      refine ⟨_, w, hr, by simpa using hown, ⟨rfl, rfl, rfl, Nat.le_refl _, fun k _ _ => rfl⟩, by simp, .inl rfl⟩
    | some ad =>
      obtain ⟨v', w', hr, h2, h3, h4, h5⟩ := run_append_own_at (P := C.P) w C.base t ty e inf z sz inf.bytes ht hi hz hsize rfl hzs h0 _ n1 xs hown ad m c2 ys hyl (fun j u hj => by obtain ⟨ad', e0, -, hc⟩ := hyw j u hj; cases e0; exact hc) h1 h63 hbytes hm.base_le
      exact ⟨v', w', hr, h2, h3, (fun e0 => by have := (h4.1 e0).1; cases this), h5⟩
  obtain ⟨v', w', hr, h2, h3, hnn, h5⟩ := key
  obtain ⟨hlen, hor⟩ := h2
  rcases hor with ⟨e0, e1⟩ | ⟨g', cap', cur, rfl, hb', hc', hn', hm', hs', ht'⟩
  · exact absurd e0 hnn
  have hblk : g' = g ∨ g' = w.heap.size := by simpa [Value.ownBlock] using h5
  unfold Oper.wp
  have hrun : (execOp a.eval ⟨some d, .call ⟨.builtin .append, ⟨[x, y]⟩, ⟨[t, t]⟩⟩, ty, pos, after, gd⟩).run C.P w = .ok (.value (.slice (some ⟨g', 0, none⟩) (n1 + m) cap')) w' := by
    unfold execOp
    simp only [resolve, invoke, builtin, Sem.run_bind, Sem.run_pure, Result.andThen_ok, List.map_toArray, List.map_cons, List.map_nil, e1, e2, SV.den, hr]
  rw [hrun]
  have hgs : g < w.heap.size := by rw [← hg]; exact qi.1
  have hsz' : g' < w'.heap.size := by
    rcases Nat.lt_or_ge g' w'.heap.size with h0 | h0
    · exact h0
    · rw [Array.getElem?_eq_none h0] at hc'; cases hc'
  have hbg : C.base ≤ g := by rw [← hg]; exact qi4 rfl
  simp only [Bool.or_eq_false_iff] at hno
  have hβ : ∀ q, q ≠ i → (fun q => if q = i then g' else β q) q = β q := fun q hq => by dsimp only; rw [if_neg hq]
  have hapart : ∀ q o r, get rows q = some (o, r) → q ≠ i → β q ≠ g := fun q o r hq hne => by rw [← hg]; exact hm.inj i q _ o r ri hq hne
  have hother : ∀ p o r', get rows p = some (o, r') → p ≠ i → β p ≠ g' := fun p o r' hp hpi => by
    rcases hblk with e0 | e0
    · rw [e0]; exact hapart p o r' hp hpi
    · have := hm.lt p (hm.row p o r' hp).2.2.1; omega
  have hs2 : Sat C.base C.w0 ⟨fr, (i, true, .blob (OwnS e sz g' (n1 + m) cap' (xs ++ ys))) :: rows, nx, n⟩ (fun q => if q = i then g' else β q) a w' := by
    refine ⟨hs.defers, hs.size, fun s v hv => ?_, ⟨hm.below.os ▸ h3.os, hm.below.tape ▸ h3.tape, hm.below.output ▸ h3.output, Nat.le_trans hm.below.size h3.size, fun q hq => ?_⟩, Nat.le_trans hm.base_le h3.size, fun q o r hq => ?_, fun q hq => ?_, fun q p r o r' hq hp hpq => ?_, hm.n0, fun q hq => ?_, hm.pr.step (fun b hb hne => ⟨Nat.lt_of_lt_of_le hb h3.size, h3.block b hb (by simp; have := hne i _ ri; omega)⟩) fun q r hq => by
      rw [get_cons] at hq
      by_cases e0 : i = q
      · rcases hblk with e1 | e1
        · exact .inl ⟨i, _, ri, by rw [if_pos e0.symm, e1, hg]⟩
        · exact .inr (by rw [if_pos e0.symm, e1]; exact Nat.le_refl _)
      · rw [if_neg e0] at hq
        exact .inl ⟨q, r, hq, by rw [if_neg (fun e' => e0 e'.symm)]⟩⟩
    · obtain ⟨k1, k2⟩ := hs.slot s v hv
      exact ⟨by rw [k1, ment_den hβ v (mentF_get fr hno.1 hv)], k2⟩
    · rw [h3.block q (Nat.lt_of_lt_of_le hq hm.base_le) (by simp; omega)]; exact hm.below.block q hq
    · rw [get_cons] at hq
      by_cases e0 : i = q
      · rw [if_pos e0] at hq
        cases hq
        subst e0
        dsimp only
        rw [if_pos rfl]
        exact ⟨⟨hsz', rfl, cur, hc', hn', hm', hs', ht', hlen⟩, trivial, qi3, fun _ => hb'⟩
      · rw [if_neg e0] at hq
        obtain ⟨k1, k2, k3, k4⟩ := hm.row q o r hq
        have hqi : q ≠ i := fun e => e0 e.symm
        dsimp only
        rw [if_neg hqi]
        have k5 := RowIs_block (h3.block _ (hm.lt q k3) (by simp; exact hapart q o r hq hqi)) h3.size k1
        refine ⟨?_, k2, k3, k4⟩
        cases r with
        | cells t' cs => simp only [RowIs] at k5 ⊢; rw [ments_den hβ cs (mentR_get rows hno.2 hq)]; exact k5
        | blob Φ => exact k5
    · have hq : q < nx := hq
      by_cases e0 : q = i
      · rw [if_pos e0]; exact hsz'
      · rw [if_neg e0]; exact Nat.lt_of_lt_of_le (hm.lt q hq) h3.size
    · rw [get_cons] at hq hp
      by_cases e0 : i = q
      · rw [if_neg (by omega)] at hp
        rw [if_pos e0.symm, if_neg (by omega)]
        exact hother p o r' hp (by omega)
      · rw [if_neg e0] at hq
        rw [if_neg (by omega : ¬ q = i)]
        by_cases e2 : i = p
        · rw [if_pos e2.symm]; exact fun e3 => hother q _ _ hq (by omega) e3.symm
        · rw [if_neg e2] at hp
          rw [if_neg (by omega)]
          exact hm.inj q p r o r' hq hp hpq
    · rw [if_neg (by omega)]; exact hm.ext q hq
  have hs3 := hs2.put (d := d) (by simpa [Nat.blt_eq] using hd) (v := .any (.slice (some ⟨g', 0, none⟩) (n1 + m) cap')) rfl
  exact hnn0 _ _ _ _ (h g' cap') hs3
end Sym
end Go.Proofs.YtnbahdnjcdimgaaDoor
namespace Go.Proofs.YtnbahdnjcdimgaaDoor
open Go.RowKit
namespace Sym
/-- a call that answers with a slice of its own making that may be written -/
def OwnOut (e : TypeId) (n : Nat) (xs : List Value) (w : World) (ev : Ending) (w' : World) : Prop := ∃ g cap, ev = .returned (.slice (some ⟨g, 0, none⟩) n cap) ∧ w.heap.size ≤ g ∧ g < w'.heap.size ∧ OwnS e 1 g n cap xs g w'.heap[g]? ∧ Below w.heap.size w w'
end Sym
end Go.Proofs.YtnbahdnjcdimgaaDoor
