/- A walk that reckons: more operations: quotients, bytes as strings, values by any lemma, calls that make a slice. A walk that reckons: slices of the function's own, of elements of any size. A walk that reckons: a builder of strings of the function's own; a new beginning in the midst of a walk. A walk that reckons: a scope through which the run goes without a jump. A walk that reckons: slices made whole, cells of one's own slices read and written, calls that answer with slices. A walk that reckons: numbers as slices of digits. A walk that reckons: slices held against nil, bools held against each other, an empty slice made. A walk that reckons: what is known of one block is told of another number; slices that are arguments; calls that may answer with an argument. The table of types. (by a tool) -/
import Derived.Test.YtlccmanncfbdkaaDoorPGB
import Derived.Lib.FrozenHead
import Derived.Scope
import Derived.Laws.OwnMore
import Derived.Test.YtlccmanncfbdkaaDoorPGA
import Derived.Laws.Cover3
import Derived.Test.YtlccmanncfbdkaaDoorPSz
set_option linter.unusedSimpArgs false
set_option linter.unusedVariables false
namespace Go.Proofs.YtlccmanncfbdkaaDoor
open Go.RowKit
namespace Sym
/-- bytes of one's own, turned into a string -/
theorem x_bytesStr {C : Ctx} {G : Blobs} {x : Operand} {t u e : TypeId} {g cap n : Nat} {xs : List Value} (i : Nat) (l : List UInt8) (hs : C.P.underlying t = some (.slice e)) (he : C.P.underlying e = some (.int .u8)) (hd : C.P.underlying u = some .string)
    (ri : G i = some (OwnI e g n cap xs)) (hx : xs = bvals l) : ExtN C G (.convert t u x) [.any (.slice (some ⟨g, 0, none⟩) n cap)] (.str l) := by
  unfold ExtN
  intro ρ β w dst ty pos after gd _ hG h
  have e1 : ρ x = .slice (some ⟨g, 0, none⟩) n cap := by simpa [opsX, SV.dens, SV.den] using h
  have ho := (hG i _ ri).2
  have hc := OwnI.cell ho
  have hn : n = l.length := by obtain ⟨-, cur, -, -, -, -, -, h6⟩ := ho; rw [← h6, hx]; simp [bvals]
  subst hn
  have hr := run_convert_bytes_back (P := C.P) w t u e ⟨g, 0, none⟩ cap l hs he hd (fun j hj => hc j _ (by rw [hx]; simp [bvals, hj]))
  simp [execOp, e1, hr, SV.den, bstr]
/-- a block that is there gets a number -/
theorem Sat.learn {base : Nat} {w0 : Base} {β : Nat → Nat} {a : Act} {w : World} {fr : List (Nat × SV)} {rows : List (Nat × Bool × SRow)} {nx n b : Nat} {o : Bool} {Φ : Nat → Option Obj → Prop} (hs : Sat base w0 ⟨fr, rows, nx, n⟩ β a w) (hb : b < w.heap.size) (hΦ : Φ b w.heap[b]?)
    (ho : o = true → base ≤ b ∧ ∀ i o' r, get rows i = some (o', r) → β i ≠ b) (hn : ∀ i r, get rows i = some (true, r) → β i ≠ b) :
    Sat base w0 ⟨fr, (nx, o, .blob Φ) :: rows, nx + 1, n⟩ (fun i => if i = nx then b else β i) a w := by
  obtain ⟨h1, h2, h3, h4⟩ := hs
  have hbe : ∀ i, i < nx → (fun i => if i = nx then b else β i) i = β i := fun i hi => by dsimp only; rw [if_neg (by omega)]
  refine ⟨h1, h2, fun s v hv => ?_, ?_⟩
  · obtain ⟨k1, k2⟩ := h3 s v hv
    exact ⟨by rw [k1, SV.den_ext hbe v k2], SV.ok_mono (Nat.le_succ _) v k2⟩
  · refine ⟨h4.below, h4.base_le, fun i ow r' hi => ?_, fun i hi => ?_, fun i j r' oj rj hi hj hji => ?_, Nat.le_trans h4.n0 (Nat.le_succ _), fun i hi => ?_⟩
    · rw [get_cons] at hi
      by_cases e : nx = i
      · rw [if_pos e] at hi
        cases hi
        subst e
        dsimp only
        rw [if_pos rfl]
        exact ⟨⟨hb, hΦ⟩, trivial, by omega, fun h => (ho h).1⟩
      · rw [if_neg e] at hi
        obtain ⟨k1, k2, k3, k4⟩ := h4.row i ow r' hi
        have k3 : i < nx := k3
        dsimp only
        rw [if_neg (by omega)]
        exact ⟨RowIs_ext hbe k2 k1, SRow.ok_mono (Nat.le_succ _) r' k2, by omega, k4⟩
    · have hi : i < nx + 1 := hi
      by_cases e : i = nx
      · rw [if_pos e]; exact hb
      · rw [if_neg e]; exact h4.lt i (show i < nx by omega)
    · rw [get_cons] at hi hj
      by_cases e : nx = i
      · rw [if_pos e] at hi
        cases hi
        rw [if_neg (by omega)] at hj
        rw [if_pos e.symm, if_neg (by omega)]
        exact (ho rfl).2 j oj rj hj
      · rw [if_neg e] at hi
        rw [if_neg (by omega : ¬ i = nx)]
        by_cases ej : nx = j
        · rw [if_pos ej.symm]; exact fun e0 => hn i r' hi e0.symm
        · rw [if_neg ej] at hj; rw [if_neg (by omega)]; exact h4.inj i j r' oj rj hi hj hji
    · have h5 : w0.n0 ≤ nx := h4.n0
      have e : ¬ i = nx := by omega
      rw [if_neg e]; exact h4.ext i hi
/-- what a slice shows, in a world -/
def SlAt (a : Option Addr) (xs : List Value) (w : World) : Prop := ∀ i v, xs[i]? = some v → ∃ ad, a = some ad ∧ ad.block < w.heap.size ∧ w.cell? (ad.add i) = some v
/-- what a slice shows, all in one block -/
def SlB (a : Option Addr) (xs : List Value) (b : Nat) (o : Option Obj) : Prop := ∀ w : World, w.heap[b]? = o → ∀ i v, xs[i]? = some v → ∃ ad, a = some ad ∧ ad.block = b ∧ w.cell? (ad.add i) = some v
def Fresh (a : Option Addr) (w : World) : Prop := ∀ ad, a = some ad → w.heap.size ≤ ad.block
theorem add_block (a : Addr) (k : Nat) : (a.add k).block = a.block := by unfold Addr.add; split <;> rfl
theorem SlAt.below {a : Option Addr} {xs : List Value} {w w' : World} (h : SlAt a xs w) (hb : Below w.heap.size w w') : SlAt a xs w' := fun i v hi => by
  obtain ⟨ad, h1, h2, h3⟩ := h i v hi
  exact ⟨ad, h1, Nat.lt_of_lt_of_le h2 hb.size, by rw [World.cell?_of_block (w := w) (by rw [add_block]; exact hb.block _ h2)]; exact h3⟩
theorem SlAt.some {a : Option Addr} {xs : List Value} {w : World} (h : SlAt a xs w) (hx : xs ≠ []) : ∃ ad, a = some ad := by
  cases xs with
  | nil => exact absurd rfl hx
  | cons x r => obtain ⟨ad, e, _⟩ := h 0 x rfl; exact ⟨ad, e⟩
theorem SlB.at {a : Option Addr} {xs : List Value} {b : Nat} {w : World} (h : SlB a xs b w.heap[b]?) (hb : b < w.heap.size) : SlAt a xs w := fun i v hi => by
  obtain ⟨ad, h1, h2, h3⟩ := h w rfl i v hi
  exact ⟨ad, h1, by omega, h3⟩
theorem xop_of {C : Ctx} (hE : EnvOK C.P C.E) (hres : C.fn.results = C.res.toArray) {all l : List Oper} {k : List It} {o : Oper} {st : St} (fuel : Nat) (h : OpX C o st (fun st' => wpS C fuel (.ops all l :: k) st')) : XopN C all l k o st := by
  unfold OpX at h
  unfold XopN
  exact fun β a w hs => h β a w hs _ _ (fun st' β' a' w' hK hs' => wpS_sound hE hres fuel (.ops all l :: k) st' β' a' w' hK hs')
theorem call_of {C : Ctx} (hE : EnvOK C.P C.E) (hres : C.fn.results = C.res.toArray) {all l : List Oper} {k : List It} {dst : Option Nat} {f : FuncId} {args : List SV} {st : St} (fuel : Nat) (h : CallX C dst f args st (fun st' => wpS C fuel (.ops all l :: k) st')) : CallN C all l k dst f args st := by
  unfold CallX at h
  unfold CallN
  refine ⟨h.1, fun β a w hs => (h.2 β a w hs).mono ?_⟩
  rintro e w' ⟨v, st', β', rfl, hK, hs'⟩
  exact wpS_sound hE hres fuel (.ops all l :: k) st' β' _ w' hK hs'
theorem opx_val {C : Ctx} {d : Nat} {op : Op} {ty : TypeId} {pos : String} {after : Array Edge} {gd : Option (Nat × Bool)} {fr : List (Nat × SV)} {rows : List (Nat × Bool × SRow)} {nx n : Nat} {K : St → Prop}
    (v : SV) (hd : Nat.blt d n = true) (hok : v.ok nx) (hr : ∀ β a w, Sat C.base C.w0 ⟨fr, rows, nx, n⟩ β a w → (execOp a.eval ⟨some d, op, ty, pos, after, gd⟩).run C.P w = .ok (.value (v.den β)) w)
    (h : K ⟨(d, v) :: fr, rows, nx, n⟩) : OpX C ⟨some d, op, ty, pos, after, gd⟩ ⟨fr, rows, nx, n⟩ K := by
  unfold OpX
  intro β a w hs next Q hn
  unfold Oper.wp
  rw [hr β a w hs]
  exact hn _ β _ w h (hs.put (by simpa [Nat.blt_eq] using hd) hok)
theorem opx_build {C : Ctx} {d : Nat} {ty : TypeId} {pos : String} {after : Array Edge} {gd : Option (Nat × Bool)} {fr : List (Nat × SV)} {rows : List (Nat × Bool × SRow)} {nx n len : Nat} {K : St → Prop}
    {ps : List (Nat × Operand)} {t e : TypeId} (xs : List Value) (hd : Nat.blt d n = true) (hl : xs.length = len) (hm : len ≤ maxLen)
    (hr : ∀ β a w, Sat C.base C.w0 ⟨fr, rows, nx, n⟩ β a w → (Instr.buildSlice t len (ps.toArray.map fun (i, x) => (i, a.eval x))).run C.P w = .ok (.slice (some ⟨w.heap.size, 0, none⟩) len len) (w.alloc (.cells xs.toArray e)))
    (h : ∀ g, K ⟨(d, .any (.slice (some ⟨g, 0, none⟩) len len)) :: fr, (nx, true, .blob (OwnI e g len len xs)) :: rows, nx + 1, n⟩) :
    OpX C ⟨some d, .buildSlice t len ⟨ps⟩, ty, pos, after, gd⟩ ⟨fr, rows, nx, n⟩ K := by
  unfold OpX
  intro β a w hs next Q hn
  have hrun := hr β a w hs
  unfold Oper.wp
  have : (execOp a.eval ⟨some d, .buildSlice t len ⟨ps⟩, ty, pos, after, gd⟩).run C.P w = .ok (.value (.slice (some ⟨w.heap.size, 0, none⟩) len len)) (w.alloc (.cells xs.toArray e)) := by
    simp only [execOp, Sem.run_bind]
    rw [hrun]; simp
  rw [this]
  have hs2 := hs.alloc (r := .blob (OwnI e w.heap.size len len xs)) trivial (.cells xs.toArray e) (fun β' hb => ⟨by simp, rfl, xs.toArray, by have := Row.new w e xs.toArray; unfold Row at this; exact this, Nat.le_refl _, hm, by simp [hl], by simp [List.take_of_length_le, hl], hl⟩) rfl
  have hs3 := hs2.put (d := d) (by simpa [Nat.blt_eq] using hd) (v := .any (.slice (some ⟨w.heap.size, 0, none⟩) len len)) rfl
  exact hn _ _ _ _ (h w.heap.size) hs3
theorem opx_one {C : Ctx} {d : Nat} {ty : TypeId} {pos : String} {after : Array Edge} {gd : Option (Nat × Bool)} {fr : List (Nat × SV)} {rows : List (Nat × Bool × SRow)} {nx n : Nat} {K : St → Prop}
    {x : Operand} {t e : TypeId} {kd : IntKind} {p : Int} {z0 : Value} (hd : Nat.blt d n = true) (hx : ev fr x = some (.int kd p))
    (ht : C.P.underlying t = some (.slice e)) (hs : ∀ w, (sizeOf e).run C.P w = .ok 1 w) (hz : ∀ w, (zeroValue e).run C.P w = .ok z0 w) (hz1 : z0.cells = #[z0])
    (h : ∀ g, K ⟨(d, .any (.slice (some ⟨g, 0, none⟩) 1 1)) :: fr, (nx, true, .blob (OwnI e g 1 1 [.int kd p])) :: rows, nx + 1, n⟩) :
    OpX C ⟨some d, .buildSlice t 1 ⟨[(0, x)]⟩, ty, pos, after, gd⟩ ⟨fr, rows, nx, n⟩ K :=
  opx_build [.int kd p] hd rfl (by unfold maxLen; omega) (fun β a w hsat => by
    have e1 := (ev_sound hsat hx).1
    have q0 : (underlying t).run C.P w = .ok (.slice e) w := by simp [underlying, ht]
    simp [Instr.buildSlice, q0, hs, hz, hz1, e1, SV.den, fill1 (.int kd p) rfl, newRow, World.alloc_eq]) h
end Sym
end Go.Proofs.YtlccmanncfbdkaaDoor
namespace Go.Proofs.YtlccmanncfbdkaaDoor
open Go.RowKit
namespace Sym
def OwnS (e : TypeId) (sz g n cap : Nat) (xs : List Value) (b : Nat) (o : Option Obj) : Prop := b = g ∧ ∃ cur, o = some (.cells cur e (0, 0)) ∧ n ≤ cap ∧ cap ≤ maxLen ∧ cur.size = cap * sz ∧ cur.toList.take (n * sz) = xs ∧ xs.length = n * sz
theorem OwnS.owns {e : TypeId} {sz g n cap : Nat} {xs : List Value} {b base : Nat} {w : World} (h : OwnS e sz g n cap xs b w.heap[b]?) (hb : base ≤ b) : w.ownsRow base e sz (.slice (some ⟨g, 0, none⟩) n cap) n xs := by
  obtain ⟨rfl, cur, h1, h2, h3, h4, h5, h6⟩ := h
  exact ⟨h6, .inr ⟨b, cap, cur, rfl, hb, h1, h2, h3, h4, h5⟩⟩
theorem OwnS.cell {e : TypeId} {sz g n cap : Nat} {xs : List Value} {b : Nat} {w : World} (h : OwnS e sz g n cap xs b w.heap[b]?) : ∀ j u, xs[j]? = some u → w.cell? ((⟨g, 0, none⟩ : Addr).add j) = some u := by
  obtain ⟨rfl, cur, h1, h2, h3, h4, h5, h6⟩ := h
  intro j u hj
  rw [add_at]
  have hjn : j < n * sz := by have := (List.getElem?_eq_some_iff.1 hj).1; omega
  have : cur[j]? = some u := by
    rw [← h5, List.getElem?_take, if_pos hjn] at hj
    simpa using hj
  simp [World.cell?, h1, this]
theorem OwnS.slAt {e : TypeId} {sz g n cap : Nat} {xs : List Value} {b : Nat} {w : World} (h : OwnS e sz g n cap xs b w.heap[b]?) (hb : b < w.heap.size) : SlAt (some ⟨g, 0, none⟩) xs w := fun j u hj => ⟨_, rfl, by rw [← h.1]; exact hb, h.cell j u hj⟩
theorem fill_whole {sz : Nat} {u : Value} {xs : List Value} (hu : u.cells = xs.toArray) (hl : xs.length = sz) (A : Array Value) (hA : A.size = sz) : Instr.fill (fun i => some (i * sz, sz)) A [(0, u)] = some xs.toArray := by
  simp only [Instr.fill, hu, Nat.zero_mul]
  rw [if_neg (by simp; omega)]
  congr 1
  have := foldl_set 0 xs 0 A (by omega)
  rw [← Array.foldl_toList, Array.toList_zipIdx]
  simp only [Nat.add_zero, Nat.zero_add] at this ⊢
  refine this.trans ?_
  rw [List.drop_eq_nil_of_le (by simp; omega)]
  simp
theorem opx_build1 {C : Ctx} {d : Nat} {ty : TypeId} {pos : String} {after : Array Edge} {gd : Option (Nat × Bool)} {fr : List (Nat × SV)} {rows : List (Nat × Bool × SRow)} {nx n : Nat} {K : St → Prop}
    {x : Operand} {t e : TypeId} {sz : Nat} {v : SV} {vs : List SV} {xs : List Value} {z0 : Value} (hd : Nat.blt d n = true) (hx : ev fr x = some v) (hc : cellsSV v = some vs) (hxs : ∀ β, SV.dens β vs = xs) (hl : xs.length = sz) (h0 : 0 < sz) (hk : sz ≤ 1000)
    (ht : C.P.underlying t = some (.slice e)) (hs : ∀ w, (sizeOf e).run C.P w = .ok sz w) (hz : ∀ w, (zeroValue e).run C.P w = .ok z0 w)
    (h : ∀ g, K ⟨(d, .any (.slice (some ⟨g, 0, none⟩) 1 1)) :: fr, (nx, true, .blob (OwnS e sz g 1 1 xs)) :: rows, nx + 1, n⟩) :
    OpX C ⟨some d, .buildSlice t 1 ⟨[(0, x)]⟩, ty, pos, after, gd⟩ ⟨fr, rows, nx, n⟩ K := by
  unfold OpX
  intro β a w hs0 next Q hn
  obtain ⟨e1, hok⟩ := ev_sound hs0 hx
  obtain ⟨ec, -⟩ := cells_sound (β := β) hc hok
  rw [hxs β] at ec
  have q0 : (underlying t).run C.P w = .ok (.slice e) w := by simp [underlying, ht]
  have hA : ((Array.range (1 * sz)).map (z0.cells[· % z0.cells.size]!)).size = sz := by simp
  have hf := fill_whole ec hl _ hA
  have hrun : (execOp a.eval ⟨some d, .buildSlice t 1 ⟨[(0, x)]⟩, ty, pos, after, gd⟩).run C.P w = .ok (.value (.slice (some ⟨w.heap.size, 0, none⟩) 1 1)) (w.alloc (.cells xs.toArray e)) := by
    have n1 : ¬ 1 * sz > 2 ^ 24 := by omega
    have n2 : ¬ 1 * sz = 0 := by omega
    simp only [execOp, Sem.run_bind]
    unfold Instr.buildSlice
    simp only [Sem.run_bind, q0, Result.andThen_ok, hs, if_neg n1, if_neg n2, hz, Sem.run_pure]
    have e3 : ((#[(0, x)] : Array (Nat × Operand)).map fun (i, y) => (i, a.eval y)).toList = [(0, v.den β)] := by simp [e1]
    simp only [e3, hf, Sem.run_bind, newRow, World.alloc_eq]
    simp [World.alloc_eq]
  unfold Oper.wp
  rw [hrun]
  have hs2 := hs0.alloc (r := .blob (OwnS e sz w.heap.size 1 1 xs)) trivial (.cells xs.toArray e) (fun β' hb => ⟨by simp, rfl, xs.toArray, by have := Row.new w e xs.toArray; unfold Row at this; exact this, Nat.le_refl _, by unfold maxLen; omega, by simp [hl], by simp [List.take_of_length_le, hl], by omega⟩) rfl
  have hs3 := hs2.put (d := d) (by simpa [Nat.blt_eq] using hd) (v := .any (.slice (some ⟨w.heap.size, 0, none⟩) 1 1)) rfl
  exact hn _ _ _ _ (h w.heap.size) hs3
theorem opx_append {C : Ctx} {d : Nat} {ty : TypeId} {pos : String} {after : Array Edge} {gd : Option (Nat × Bool)} {fr : List (Nat × SV)} {rows : List (Nat × Bool × SRow)} {nx n : Nat} {K : St → Prop}
    {x y : Operand} {t e : TypeId} {sz : Nat} (i j : Nat) {g n1 cap1 g2 m c2 : Nat} {xs ys : List Value} {inf : TypeInfo} {z : Value} (hd : Nat.blt d n = true)
    (ht : C.P.underlying t = some (.slice e)) (hi : C.P.info? e = some inf) (hz : inf.zero = some z) (hsize : inf.size = sz) (hzs : z.cells.size = sz) (h0 : 0 < sz)
    (hx : ev fr x = some (.any (.slice (some ⟨g, 0, none⟩) n1 cap1))) (hy : ev fr y = some (.any (.slice (some ⟨g2, 0, none⟩) m c2)))
    (ri : get rows i = some (true, .blob (OwnS e sz g n1 cap1 xs))) (rj : get rows j = some (true, .blob (OwnS e sz g2 m c2 ys)))
    (h63 : n1 + m ≤ maxLen) (hbytes : (n1 + m) * inf.bytes ≤ 140737488355328) (h1 : ∀ u ∈ ys, u.oneCell' = true) (hno : (mentF i fr || mentR i rows) = false) (hni : C.w0.n0 ≤ i)
    (h : ∀ g' cap', K ⟨(d, .any (.slice (some ⟨g', 0, none⟩) (n1 + m) cap')) :: fr, (i, true, .blob (OwnS e sz g' (n1 + m) cap' (xs ++ ys))) :: rows, nx, n⟩) :
    OpX C ⟨some d, .call ⟨.builtin .append, ⟨[x, y]⟩, ⟨[t, t]⟩⟩, ty, pos, after, gd⟩ ⟨fr, rows, nx, n⟩ K := by
  unfold OpX
  intro β a w hs next Q hnn0
  have hm := hs.mem
  obtain ⟨qi, -, qi3, qi4⟩ := hm.row i _ _ ri
  obtain ⟨qj, -, qj3, -⟩ := hm.row j _ _ rj
  have qi3 : i < nx := qi3
  have hown := OwnS.owns qi.2 (qi4 rfl)
  have hg : β i = g := qi.2.1
  have hnews := OwnS.cell qj.2
  have hml : ys.length = m * sz := by obtain ⟨-, cur, -, -, -, -, -, h6⟩ := qj.2; exact h6
  obtain ⟨v', w', hr, h2, h3, h4, h5⟩ := run_append_own_at (P := C.P) w C.base t ty e inf z sz inf.bytes ht hi hz hsize rfl hzs h0 _ n1 xs hown ⟨g2, 0, none⟩ m c2 ys hml hnews h1 h63 hbytes hm.base_le
  have hnn : ¬ v' = .slice none 0 0 := fun e0 => by have := (h4.1 e0).1; cases this
  obtain ⟨hlen, hor⟩ := h2
  rcases hor with ⟨e0, e1⟩ | ⟨g', cap', cur, rfl, hb', hc', hn', hm', hs', ht'⟩
  · exact absurd e0 hnn
  have hblk : g' = g ∨ g' = w.heap.size := by simpa [Value.ownBlock] using h5
  unfold Oper.wp
  have e1 := (ev_sound hs hx).1
  have e2 := (ev_sound hs hy).1
  have hrun : (execOp a.eval ⟨some d, .call ⟨.builtin .append, ⟨[x, y]⟩, ⟨[t, t]⟩⟩, ty, pos, after, gd⟩).run C.P w = .ok (.value (.slice (some ⟨g', 0, none⟩) (n1 + m) cap')) w' := by
    unfold execOp
    simp only [resolve, invoke, builtin, Sem.run_bind, Sem.run_pure, Result.andThen_ok, List.map_toArray, List.map_cons, List.map_nil, e1, e2, SV.den, hr]
  rw [hrun]
  have hgs : g < w.heap.size := by rw [← hg]; exact qi.1
  have hsz' : g' < w'.heap.size := by
    rcases Nat.lt_or_ge g' w'.heap.size with h0 | h0
    · exact h0
    · rw [Array.getElem?_eq_none h0] at hc'; cases hc'
  have hbg : C.base ≤ g := by rw [← hg]; exact qi4 rfl
  simp only [Bool.or_eq_false_iff] at hno
  have hβ : ∀ q, q ≠ i → (fun q => if q = i then g' else β q) q = β q := fun q hq => by dsimp only; rw [if_neg hq]
  have hapart : ∀ q o r, get rows q = some (o, r) → q ≠ i → β q ≠ g := fun q o r hq hne => by rw [← hg]; exact hm.inj i q _ o r ri hq hne
  have hother : ∀ p o r', get rows p = some (o, r') → p ≠ i → β p ≠ g' := fun p o r' hp hpi => by
    rcases hblk with e0 | e0
    · rw [e0]; exact hapart p o r' hp hpi
    · have := hm.lt p (hm.row p o r' hp).2.2.1; omega
  have hs2 : Sat C.base C.w0 ⟨fr, (i, true, .blob (OwnS e sz g' (n1 + m) cap' (xs ++ ys))) :: rows, nx, n⟩ (fun q => if q = i then g' else β q) a w' := by
    refine ⟨hs.defers, hs.size, fun s v hv => ?_, ⟨hm.below.os ▸ h3.os, hm.below.tape ▸ h3.tape, hm.below.output ▸ h3.output, Nat.le_trans hm.below.size h3.size, fun q hq => ?_⟩, Nat.le_trans hm.base_le h3.size, fun q o r hq => ?_, fun q hq => ?_, fun q p r o r' hq hp hpq => ?_, hm.n0, fun q hq => ?_⟩
    · obtain ⟨k1, k2⟩ := hs.slot s v hv
      exact ⟨by rw [k1, ment_den hβ v (mentF_get fr hno.1 hv)], k2⟩
    · rw [h3.block q (Nat.lt_of_lt_of_le hq hm.base_le) (by simp [Value.ownBlock]; omega)]; exact hm.below.block q hq
    · rw [get_cons] at hq
      by_cases e0 : i = q
      · rw [if_pos e0] at hq
        cases hq
        subst e0
        dsimp only
        rw [if_pos rfl]
        exact ⟨⟨hsz', rfl, cur, hc', hn', hm', hs', ht', hlen⟩, trivial, qi3, fun _ => hb'⟩
      · rw [if_neg e0] at hq
        obtain ⟨k1, k2, k3, k4⟩ := hm.row q o r hq
        have hqi : q ≠ i := fun e => e0 e.symm
        dsimp only
        rw [if_neg hqi]
        have k5 := RowIs_block (h3.block _ (hm.lt q k3) (by simp [Value.ownBlock]; exact hapart q o r hq hqi)) h3.size k1
        refine ⟨?_, k2, k3, k4⟩
        cases r with
        | cells t' cs => simp only [RowIs] at k5 ⊢; rw [ments_den hβ cs (mentR_get rows hno.2 hq)]; exact k5
        | blob Φ => exact k5
    · have hq : q < nx := hq
      by_cases e0 : q = i
      · rw [if_pos e0]; exact hsz'
      · rw [if_neg e0]; exact Nat.lt_of_lt_of_le (hm.lt q hq) h3.size
    · rw [get_cons] at hq hp
      by_cases e0 : i = q
      · rw [if_neg (by omega)] at hp
        rw [if_pos e0.symm, if_neg (by omega)]
        exact hother p o r' hp (by omega)
      · rw [if_neg e0] at hq
        rw [if_neg (by omega : ¬ q = i)]
        by_cases e2 : i = p
        · rw [if_pos e2.symm]; exact fun e3 => hother q _ _ hq (by omega) e3.symm
        · rw [if_neg e2] at hp
          rw [if_neg (by omega)]
          exact hm.inj q p r o r' hq hp hpq
    · rw [if_neg (by omega)]; exact hm.ext q hq
  have hs3 := hs2.put (d := d) (by simpa [Nat.blt_eq] using hd) (v := .any (.slice (some ⟨g', 0, none⟩) (n1 + m) cap')) rfl
  exact hnn0 _ _ _ _ (h g' cap') hs3
/-- the first append, to no slice at all -/
theorem opx_append0 {C : Ctx} {d : Nat} {ty : TypeId} {pos : String} {after : Array Edge} {gd : Option (Nat × Bool)} {fr : List (Nat × SV)} {rows : List (Nat × Bool × SRow)} {nx n : Nat} {K : St → Prop}
    {x y : Operand} {t e : TypeId} {sz : Nat} (j : Nat) {g2 m c2 : Nat} {ys : List Value} {inf : TypeInfo} {z : Value} (hd : Nat.blt d n = true)
    (ht : C.P.underlying t = some (.slice e)) (hi : C.P.info? e = some inf) (hz : inf.zero = some z) (hsize : inf.size = sz) (hzs : z.cells.size = sz) (h0 : 0 < sz)
    (hx : ev fr x = some (.any (.slice none 0 0))) (hy : ev fr y = some (.any (.slice (some ⟨g2, 0, none⟩) m c2)))
    (rj : get rows j = some (true, .blob (OwnS e sz g2 m c2 ys)))
    (h63 : m ≤ maxLen) (hbytes : m * inf.bytes ≤ 140737488355328) (h1 : ∀ u ∈ ys, u.oneCell' = true) (hm0 : 0 < m)
    (h : ∀ g' cap', K ⟨(d, .any (.slice (some ⟨g', 0, none⟩) m cap')) :: fr, (nx, true, .blob (OwnS e sz g' m cap' ys)) :: rows, nx + 1, n⟩) :
    OpX C ⟨some d, .call ⟨.builtin .append, ⟨[x, y]⟩, ⟨[t, t]⟩⟩, ty, pos, after, gd⟩ ⟨fr, rows, nx, n⟩ K := by
  unfold OpX
  intro β a w hs next Q hnn0
  have hm := hs.mem
  obtain ⟨qj, -, qj3, -⟩ := hm.row j _ _ rj
  have hnews := OwnS.cell qj.2
  have hml : ys.length = m * sz := by obtain ⟨-, cur, -, -, -, -, -, h6⟩ := qj.2; exact h6
  obtain ⟨v', w', hr, h2, h3, h4, h5⟩ := run_append_own_at (P := C.P) w C.base t ty e inf z sz inf.bytes ht hi hz hsize rfl hzs h0 _ 0 [] (owns_nil w C.base e sz) ⟨g2, 0, none⟩ m c2 ys hml hnews h1 (by omega) (by rw [Nat.zero_add]; exact hbytes) hm.base_le
  have hnn : ¬ v' = .slice none 0 0 := fun e0 => by have := (h4.1 e0).2; omega
  obtain ⟨hlen, hor⟩ := h2
  rcases hor with ⟨e0, e1⟩ | ⟨g', cap', cur, rfl, hb', hc', hn', hm', hs', ht'⟩
  · exact absurd e0 hnn
  have hblk : g' = w.heap.size := by simpa [Value.ownBlock] using h5
  unfold Oper.wp
  have e1 := (ev_sound hs hx).1
  have e2 := (ev_sound hs hy).1
  have hrun : (execOp a.eval ⟨some d, .call ⟨.builtin .append, ⟨[x, y]⟩, ⟨[t, t]⟩⟩, ty, pos, after, gd⟩).run C.P w = .ok (.value (.slice (some ⟨g', 0, none⟩) (0 + m) cap')) w' := by
    unfold execOp
    simp only [resolve, invoke, builtin, Sem.run_bind, Sem.run_pure, Result.andThen_ok, List.map_toArray, List.map_cons, List.map_nil, e1, e2, SV.den, hr]
  rw [hrun]
  simp only [Nat.zero_add, List.nil_append] at *
  have hsz' : g' < w'.heap.size := by
    rcases Nat.lt_or_ge g' w'.heap.size with h0 | h0
    · exact h0
    · rw [Array.getElem?_eq_none h0] at hc'; cases hc'
  have hbel : Below w.heap.size w w' := ⟨h3.os, h3.tape, h3.output, h3.size, fun k hk => h3.block k hk (by simp [Value.ownBlock])⟩
  have hs' : Sat C.base C.w0 ⟨fr, rows, nx, n⟩ β a w' := ⟨hs.defers, hs.size, hs.slot, hm.belowNext hbel⟩
  have hs2 := hs'.learn (o := true) (b := g') (Φ := OwnS e sz g' m cap' ys) hsz' ⟨rfl, cur, hc', hn', hm', by assumption, ht', hlen⟩ (fun _ => ⟨hb', fun i o' r hi => by have := hm.lt i (hm.row i o' r hi).2.2.1; omega⟩) (fun i r hi => by have := hm.lt i (hm.row i true r hi).2.2.1; omega)
  have hs3 := hs2.put (d := d) (by simpa [Nat.blt_eq] using hd) (v := .any (.slice (some ⟨g', 0, none⟩) m cap')) rfl
  exact hnn0 _ _ _ _ (h g' cap') hs3
end Sym
end Go.Proofs.YtlccmanncfbdkaaDoor
namespace Go.Proofs.YtlccmanncfbdkaaDoor
open Go.RowKit
namespace Sym
end Sym
end Go.Proofs.YtlccmanncfbdkaaDoor
namespace Go.Proofs.YtlccmanncfbdkaaDoor
open Go.RowKit
namespace Sym
end Sym
end Go.Proofs.YtlccmanncfbdkaaDoor
namespace Go.Proofs.YtlccmanncfbdkaaDoor
open Go.RowKit
namespace Sym
theorem x_loadO {C : Ctx} {G : Blobs} {x : Operand} {t e : TypeId} {sz g m cap p : Nat} {xs : List Value} (i : Nat) (v : SV) (hag : ∀ w, (isAgg t).run C.P w = .ok false w) (ri : G i = some (OwnS e sz g m cap xs)) (hv : ∀ β, xs[p]? = some (v.den β)) :
    ExtN C G (.load t x) [.any (.pointer (some ((⟨g, 0, none⟩ : Addr).add p)))] v := by
  unfold ExtN
  intro ρ β w dst ty pos after gd _ hG h
  have e1 : ρ x = .pointer (some ((⟨g, 0, none⟩ : Addr).add p)) := by simpa [opsX, SV.dens, SV.den] using h
  obtain ⟨h1, h2⟩ := hG i _ ri
  have hc := OwnS.cell h2 p _ (hv β)
  simp [execOp, Instr.loadAt, Instr.sureAddr, e1, loadVar, hag, hc]
/-- part of a slice -/
theorem add_zero (a : Addr) : a.add 0 = a := by unfold Addr.add; split <;> simp_all
/-- a cell of one's own slice is written -/
theorem Sat.setBlob {base : Nat} {w0 : Base} {β : Nat → Nat} {a : Act} {w : World} {i : Nat} {Φ Φ' : Nat → Option Obj → Prop} {t : TypeId} {cs' : Array Value} {cs : Array Value} {fr : List (Nat × SV)} {rows : List (Nat × Bool × SRow)} {nx n : Nat} (hs : Sat base w0 ⟨fr, rows, nx, n⟩ β a w) (hi : get rows i = some (true, .blob Φ)) (hr : w.heap[β i]? = some (.cells cs t (0, 0)))
    (hΦ : Φ' (β i) (some (.cells cs' t (0, 0)))) :
    Sat base w0 ⟨fr, (i, true, .blob Φ') :: rows, nx, n⟩ β a (w.setRow (β i) cs') := by
  obtain ⟨h1, h2, h3, h4⟩ := hs
  obtain ⟨k1, k2, k3, k4⟩ := h4.row i true _ hi
  have k3 : i < nx := k3
  have k4 := k4 rfl
  refine ⟨h1, h2, h3, ?_⟩
  refine ⟨h4.below.trans ⟨rfl, rfl, rfl, by rw [setRow_size]; exact Nat.le_refl _, fun k hk => setRow_other _ (by omega)⟩, by rw [setRow_size]; exact h4.base_le, fun j ow r hj => ?_, fun j hj => by rw [setRow_size]; exact h4.lt j hj, fun j l r ol rl hj hl hlj => ?_, h4.n0, h4.ext⟩
  · rw [get_cons] at hj
    by_cases e : i = j
    · rw [if_pos e] at hj
      cases hj
      subst e
      refine ⟨⟨by rw [setRow_size]; exact k1.1, ?_⟩, trivial, k3, fun _ => k4⟩
      have : (w.setRow (β i) cs').heap[β i]? = some (.cells cs' t (0, 0)) := setRow_heap w _ _ _ _ _ hr
      rw [this]; exact hΦ
    · rw [if_neg e] at hj
      obtain ⟨m1, m2, m3, m4⟩ := h4.row j ow r hj
      have m3 : j < nx := m3
      have hne : β j ≠ β i := h4.inj i j _ ow r hi hj (fun e' => e e'.symm)
      refine ⟨?_, m2, m3, m4⟩
      cases r with
      | cells t2 c2 =>
        simp only [RowIs] at m1 ⊢
        unfold Row at m1 ⊢
        rw [setRow_other _ hne]; exact m1
      | blob Φ =>
        obtain ⟨q1, q2⟩ := m1
        exact ⟨by rw [setRow_size]; exact q1, by rw [setRow_other _ hne]; exact q2⟩
  · have hj' : ∃ r0, get rows j = some (true, r0) := by
      rw [get_cons] at hj
      by_cases e : i = j
      · subst e; exact ⟨_, hi⟩
      · rw [if_neg e] at hj; exact ⟨_, hj⟩
    have hl' : ∃ o0 r0, get rows l = some (o0, r0) := by
      rw [get_cons] at hl
      by_cases e : i = l
      · subst e; exact ⟨_, _, hi⟩
      · rw [if_neg e] at hl; exact ⟨_, _, hl⟩
    obtain ⟨r0, hj'⟩ := hj'
    obtain ⟨o1, r1, hl'⟩ := hl'
    exact h4.inj j l r0 o1 r1 hj' hl' hlj
theorem opx_store {C : Ctx} (hE : EnvOK C.P C.E) {ty : TypeId} {pos : String} {after : Array Edge} {gd : Option (Nat × Bool)} {fr : List (Nat × SV)} {rows : List (Nat × Bool × SRow)} {nx n : Nat} {K : St → Prop}
    {t e : TypeId} {x y : Operand} (i : Nat) {p g m cap : Nat} {xs : List Value} {v : SV} {u : Value} {kd : TK} {ag : Bool} {z : List SV}
    (hx : ev fr x = some (.any (.pointer (some ((⟨g, 0, none⟩ : Addr).add p))))) (hy : ev fr y = some v) (hc : cellsSV v = some [v]) (ho : v.one = true) (hu : ∀ β, v.den β = u) (ht : get C.E t = some ⟨kd, 1, ag, z⟩)
    (ri : get rows i = some (true, .blob (OwnS e 1 g m cap xs))) (hp : p < m)
    (h : K ⟨fr, (i, true, .blob (OwnS e 1 g m cap (xs.set p u))) :: rows, nx, n⟩) : OpX C ⟨none, .store t x y, ty, pos, after, gd⟩ ⟨fr, rows, nx, n⟩ K := by
  unfold OpX
  intro β a w hs next Q hn
  have ht' := env_get hE ht
  obtain ⟨ex, _⟩ := ev_sound hs hx
  obtain ⟨ey, oy⟩ := ev_sound hs hy
  obtain ⟨ec, oc⟩ := cells_sound (β := β) hc oy
  have hm := hs.mem
  obtain ⟨k1, k2, k3, k4⟩ := hm.row i true _ ri
  obtain ⟨q0, cur, q1, q2, q3, q4, q5, q6⟩ := k1.2
  have hrow : Row w g e cur := by unfold Row; rw [← q0]; exact q1
  have hlt : p < cur.size := by omega
  have hst := run_storeCells_at (P := C.P) g p e (SV.dens β [v]) 0 cur w hrow (by simp [SV.dens]; omega) (allOne_sound (n := nx) (by simp [allOne, ho]) ⟨oy, trivial⟩)
  have hcs : (cur.toList.take (p + 0) ++ SV.dens β [v] ++ cur.toList.drop (p + 0 + (SV.dens β [v]).length)).toArray = cur.setIfInBounds p u := by
    apply Array.toList_inj.1
    rw [Array.toList_setIfInBounds]
    simp only [SV.dens, hu, Nat.add_zero, List.length_cons, List.length_nil, List.toList_toArray]
    rw [List.set_eq_take_append_cons_drop, if_pos (by simpa using hlt)]
    simp
  rw [hcs] at hst
  have hst2 : (storeVar t ⟨g, p, none⟩ (v.den β)).run C.P w = .ok () (w.setRow g (cur.setIfInBounds p u)) := by
    simp only [storeVar, Sem.run_bind, ht'.size, Result.andThen_ok, ec]
    rw [if_neg (by simp [SV.dens])]
    exact hst
  rw [add_at] at ex
  simp only [SV.den, Nat.zero_add] at ex
  unfold Oper.wp
  have : (execOp a.eval ⟨none, .store t x y, ty, pos, after, gd⟩).run C.P w = .ok .skip (w.setRow g (cur.setIfInBounds p u)) := by
    simp [execOp, Instr.storeAt, ex, ey, Instr.sureAddr, hst2]
  rw [this]
  show next (a.put none undef) _
  have hs2 := hs.setBlob (Φ' := OwnS e 1 g m cap (xs.set p u)) (cs' := cur.setIfInBounds p u) ri q1 ⟨q0, _, rfl, q2, q3, by simpa using q4, by rw [Array.toList_setIfInBounds, ← q5, List.take_set], by simpa using q6⟩
  rw [q0] at hs2
  exact hn _ _ _ _ h hs2
/-- a slice made whole -/
theorem opx_make {C : Ctx} {d : Nat} {ty : TypeId} {pos : String} {after : Array Edge} {gd : Option (Nat × Bool)} {fr : List (Nat × SV)} {rows : List (Nat × Bool × SRow)} {nx n : Nat} {K : St → Prop}
    {x y : Operand} {t e : TypeId} {kl kc : IntKind} {m : Nat} {i : Int} {inf : TypeInfo} {z : Value} (hd : Nat.blt d n = true) (hi : i = (m : Nat)) (hx : ev fr x = some (.int kl i)) (hy : ev fr y = some (.int kc i))
    (ht : C.P.underlying t = some (.slice e)) (hin : C.P.info? e = some inf) (hz : inf.zero = some z) (hsize : inf.size = 1) (hzc : z.cells = #[z]) (hbytes : inf.bytes * m ≤ 281474976710656) (h63 : m ≤ maxLen)
    (h : ∀ g, K ⟨(d, .any (.slice (some ⟨g, 0, none⟩) m m)) :: fr, (nx, true, .blob (OwnS e 1 g m m (List.replicate m z))) :: rows, nx + 1, n⟩) :
    OpX C ⟨some d, .makeSlice t x y, ty, pos, after, gd⟩ ⟨fr, rows, nx, n⟩ K := by
  subst hi
  unfold OpX
  intro β a w hs next Q hn
  have e1 := (ev_sound hs hx).1
  have e2 := (ev_sound hs hy).1
  have h63' : ((m : Nat) : Int) ≤ 9223372036854775807 := by simp only [maxLen] at h63; omega
  have hb' : (inf.bytes : Int) * ((m : Nat) : Int) ≤ 281474976710656 := by
    have h : ((inf.bytes * m : Nat) : Int) ≤ 281474976710656 := by omega
    rwa [Int.natCast_mul] at h
  have hr := run_make (P := C.P) w t e inf z ht hin hz kl kc m m (by omega) (Int.le_refl _) hb' h63'
  simp only [Int.toNat_natCast, hsize, hzc, Nat.mul_one] at hr
  have hc : madeCells #[z] m = (List.replicate m z).toArray := by
    apply Array.toList_inj.1
    rw [toList_madeCells_one]
  rw [hc] at hr
  unfold Oper.wp
  have : (execOp a.eval ⟨some d, .makeSlice t x y, ty, pos, after, gd⟩).run C.P w = .ok (.value (.slice (some ⟨w.heap.size, 0, none⟩) m m)) (w.alloc (.cells (List.replicate m z).toArray e)) := by
    simp only [execOp, e1, e2, SV.den, Sem.run_bind, hr]; simp
  rw [this]
  have hs2 := hs.alloc (r := .blob (OwnS e 1 w.heap.size m m (List.replicate m z))) trivial (.cells (List.replicate m z).toArray e) (fun β' hb => ⟨by simp, rfl, (List.replicate m z).toArray, by have := Row.new w e (List.replicate m z).toArray; unfold Row at this; exact this, Nat.le_refl _, h63, by simp, by simp, by simp⟩) rfl
  have hs3 := hs2.put (d := d) (by simpa [Nat.blt_eq] using hd) (v := .any (.slice (some ⟨w.heap.size, 0, none⟩) m m)) rfl
  exact hn _ _ _ _ (h w.heap.size) hs3
/-- what a slice shows, and that it is not older than base -/
def SlF (base : Nat) (a : Option Addr) (xs : List Value) (b : Nat) (o : Option Obj) : Prop := SlB a xs b o ∧ (xs ≠ [] → base ≤ b)
def FreshX (a : Option Addr) (xs : List Value) (w : World) : Prop := xs ≠ [] → Fresh a w
theorem SlAt.toF {a : Option Addr} {xs : List Value} {w w' : World} {base : Nat} (h : SlAt a xs w') (hf : FreshX a xs w) (hbw : base ≤ w.heap.size) (h0 : 0 < base) (hb : base ≤ w'.heap.size) : ∃ b, (w.heap.size ≤ b ∨ b < base) ∧ b < w'.heap.size ∧ SlF base a xs b w'.heap[b]? := by
  cases xs with
  | nil => exact ⟨0, .inr h0, by omega, fun _ _ i v hi => by simp at hi, fun h => absurd rfl h⟩
  | cons x r =>
    obtain ⟨ad, e, h1, _⟩ := h 0 x rfl
    have hf := hf (by simp)
    refine ⟨ad.block, .inl (hf ad e), h1, fun W hW i v hi => ?_, fun _ => Nat.le_trans hbw (hf ad e)⟩
    obtain ⟨ad', e', h2, h3⟩ := h i v hi
    rw [e] at e'
    cases e'
    exact ⟨ad, e, rfl, by rw [World.cell?_of_block (w := w') (by rw [add_block]; exact hW)]; exact h3⟩
theorem SlF.at {base : Nat} {a : Option Addr} {xs : List Value} {b : Nat} {w : World} (h : SlF base a xs b w.heap[b]?) (hb : b < w.heap.size) : SlAt a xs w := h.1.at hb
/-- a call that answers with a slice of its own making, among others -/
theorem callSlF {C : Ctx} {d : Nat} {f : FuncId} {args : List SV} {fr : List (Nat × SV)} {rows : List (Nat × Bool × SRow)} {nx n : Nat} {K : St → Prop} {T : Type}
    (V : T → SV) (A : T → Option Addr) (X : T → List Value) (h0 : 0 < C.base)
    (he : entersB C.P f = true) (hd : Nat.blt d n = true) (hv : ∀ t, (V t).ok nx) (hc : ∀ β w, Mem C.base C.w0 rows nx β w → Calls C.P f (SV.dens β args).toArray w fun e w' => Below w.heap.size w w' ∧ ∃ t, e = .returned ((V t).den β) ∧ SlAt (A t) (X t) w' ∧ FreshX (A t) (X t) w)
    (h : ∀ t, (X t ≠ [] → ∃ ad, A t = some ad) → K ⟨(d, V t) :: fr, (nx, false, .blob (SlF C.base (A t) (X t))) :: rows, nx + 1, n⟩) : CallX C (some d) f args ⟨fr, rows, nx, n⟩ K := by
  unfold CallX
  refine ⟨he, fun β a w hs => (hc β w hs.mem).mono ?_⟩
  rintro e w' ⟨hb, t, rfl, hsl, hfr⟩
  have hm := hs.mem
  obtain ⟨b, h1, h2, h3⟩ := hsl.toF hfr hm.base_le h0 (Nat.le_trans hm.base_le hb.size)
  have hs' : Sat C.base C.w0 ⟨fr, rows, nx, n⟩ β a w' := ⟨hs.defers, hs.size, hs.slot, hm.belowNext hb⟩
  have hs2 := hs'.learn (o := false) h2 h3 (fun e => by cases e) (fun i r hi => by
    have := hm.lt i (hm.row i true r hi).2.2.1
    have := (hm.row i true r hi).2.2.2 rfl
    omega)
  have hs3 := hs2.put (d := d) (by simpa [Nat.blt_eq] using hd) (SV.ok_mono (Nat.le_succ _) _ (hv t))
  have e1 : (V t).den (fun i => if i = nx then b else β i) = (V t).den β := SV.den_ext (n := nx) (fun i hi => by rw [if_neg (by omega)]) _ (hv t)
  rw [e1] at hs3
  exact ⟨_, _, _, rfl, h t (fun hx => hsl.some hx), hs3⟩
end Sym
end Go.Proofs.YtlccmanncfbdkaaDoor
namespace Go.Proofs.YtlccmanncfbdkaaDoor
open Go.RowKit
namespace Sym
open ExP (nd dig dg dgN tab)
def valsK (k : IntKind) (l : List Nat) : List Value := l.map fun (d : Nat) => Value.int k (d : Int)
abbrev nv (k : IntKind) (b x : Nat) : List Value := valsK k (dg b x)
theorem sl_read {ad : Addr} {xs : List Value} {w : World} (h : SlAt (some ad) xs w) {i : Nat} {v : Value} (hv : xs[i]? = some v) : ∀ w', Below w.heap.size w w' → w'.cell? (ad.add i) = some v := fun w' hb => by
  obtain ⟨a', e, _, hc⟩ := (h.below hb) i v hv
  cases e; exact hc
theorem sl_nil (a : Option Addr) (w : World) : SlAt a [] w := fun i v h => by simp at h
theorem Mem.slF {base : Nat} {w0 : Base} {rows : List (Nat × Bool × SRow)} {nx : Nat} {β : Nat → Nat} {w : World} (hm : Mem base w0 rows nx β w) (j : Nat) {o : Bool} {bs : Nat} {a : Option Addr} {xs : List Value} (hj : get rows j = some (o, .blob (SlF bs a xs))) : SlAt a xs w :=
  (hm.row j _ _ hj).1.2.at (hm.row j _ _ hj).1.1
theorem Mem.own {base : Nat} {w0 : Base} {rows : List (Nat × Bool × SRow)} {nx : Nat} {β : Nat → Nat} {w : World} (hm : Mem base w0 rows nx β w) (j : Nat) {e : TypeId} {sz g n cap : Nat} {xs : List Value} (hj : get rows j = some (true, .blob (OwnS e sz g n cap xs))) :
    SlAt (some ⟨g, 0, none⟩) xs w ∧ base ≤ g ∧ n ≤ cap := by
  obtain ⟨h1, -, -, h4⟩ := hm.row j _ _ hj
  refine ⟨h1.2.slAt h1.1, by rw [← h1.2.1]; exact h4 rfl, ?_⟩
  obtain ⟨-, cur, -, h, -⟩ := h1.2
  exact h
end Sym
end Go.Proofs.YtlccmanncfbdkaaDoor
namespace Go.Proofs.YtlccmanncfbdkaaDoor
open Go.RowKit
namespace Sym
theorem x_eqBB {C : Ctx} {G : Blobs} {x y : Operand} {t u : TypeId} {va vb : SV} (a b : Bool) (c : Bool) (ha : ∀ β, va.den β = .bool a) (hb : ∀ β, vb.den β = .bool b) (hc : (a == b) = c) (ht : C.P.underlying t = some .bool) : ExtN C G (.binOp .eql t x y u) [va, vb] (.lit c) := by
  unfold ExtN
  intro ρ β w dst ty pos after g _ _ h
  have h' : ρ x = .bool a ∧ ρ y = .bool b := by simpa [opsX, SV.dens, SV.den, ha, hb] using h
  have h2 := run_eql_bool (P := C.P) (w := w) t a b ht
  simp [execOp, eqGuard, h'.1, h'.2, h2, SV.den, hc]
end Sym
end Go.Proofs.YtlccmanncfbdkaaDoor
namespace Go.Proofs.YtlccmanncfbdkaaDoor
open Go.RowKit
namespace Sym
open ExP (nd)
theorem Sat.copy {base : Nat} {w0 : Base} {β : Nat → Nat} {a : Act} {w : World} {fr : List (Nat × SV)} {rows : List (Nat × Bool × SRow)} {nx n : Nat} (i j : Nat) {Φ : Nat → Option Obj → Prop} (hs : Sat base w0 ⟨fr, rows, nx, n⟩ β a w) (hj : get rows j = some (false, .blob Φ)) (hi : i < nx) (hij : i ≠ j) (hn0 : w0.n0 ≤ i)
    (hno : (mentF i fr || mentR i rows) = false) : Sat base w0 ⟨fr, (i, false, .blob Φ) :: rows, nx, n⟩ (fun q => if q = i then β j else β q) a w := by
  obtain ⟨h1, h2, h3, h4⟩ := hs
  simp only [Bool.or_eq_false_iff] at hno
  have hβ : ∀ q, q ≠ i → (fun q => if q = i then β j else β q) q = β q := fun q hq => by dsimp only; rw [if_neg hq]
  obtain ⟨k1, -, k3, -⟩ := h4.row j _ _ hj
  refine ⟨h1, h2, fun s v hv => ?_, ?_⟩
  · obtain ⟨e1, e2⟩ := h3 s v hv
    exact ⟨by rw [e1, ment_den hβ v (mentF_get fr hno.1 hv)], e2⟩
  refine ⟨h4.below, h4.base_le, fun q o r hq => ?_, fun q hq => ?_, fun q p r o r' hq hp hpq => ?_, h4.n0, fun q hq => ?_⟩
  · rw [get_cons] at hq
    by_cases e : i = q
    · rw [if_pos e] at hq
      cases hq
      subst e
      try dsimp only
      rw [if_pos rfl]
      exact ⟨k1, trivial, hi, fun e => by cases e⟩
    · rw [if_neg e] at hq
      obtain ⟨m1, m2, m3, m4⟩ := h4.row q o r hq
      try dsimp only
      rw [if_neg (fun e' => e e'.symm)]
      refine ⟨?_, m2, m3, m4⟩
      cases r with
      | cells t cs => simp only [RowIs] at m1 ⊢; rw [ments_den hβ cs (mentR_get rows hno.2 hq)]; exact m1
      | blob Φ => exact m1
  · have hq : q < nx := hq
    try dsimp only
    split
    · exact h4.lt j k3
    · exact h4.lt q hq
  · rw [get_cons] at hq hp
    by_cases e : i = q
    · rw [if_pos e] at hq; cases hq
    · rw [if_neg e] at hq
      have e' : ¬ q = i := fun e' => e e'.symm
      try dsimp only
      rw [if_neg e']
      by_cases e2 : i = p
      · rw [if_pos e2.symm]
        refine h4.inj q j r false _ hq hj (fun e3 => ?_)
        subst e3
        rw [hj] at hq; cases hq
      · rw [if_neg e2] at hp
        have e4 : ¬ p = i := fun e' => e2 e'.symm
        rw [if_neg e4]
        exact h4.inj q p r o r' hq hp hpq
  · have hq : q < w0.n0 := hq
    try dsimp only
    rw [if_neg (by omega)]; exact h4.ext q hq
theorem Mem.slB {base : Nat} {w0 : Base} {rows : List (Nat × Bool × SRow)} {nx : Nat} {β : Nat → Nat} {w : World} (hm : Mem base w0 rows nx β w) (j : Nat) {o : Bool} {a : Option Addr} {xs : List Value} (hj : get rows j = some (o, .blob (SlB a xs))) : SlAt a xs w :=
  (hm.row j _ _ hj).1.2.at (hm.row j _ _ hj).1.1
end Sym
end Go.Proofs.YtlccmanncfbdkaaDoor
namespace Go.Proofs.YtlccmanncfbdkaaDoor
open Go.RowKit
namespace Sym
def env : Env := [(1, ⟨.other, 1, false, [.any (Go.Value.nilFunc)]⟩),
  (2, ⟨.int .i64, 1, false, [.int .i64 0]⟩),
  (3, ⟨.int .i64, 1, false, [.int .i64 0]⟩),
  (4, ⟨.bool, 1, false, [.lit false]⟩),
  (5, ⟨.int .u8, 1, false, [.int .u8 0]⟩),
  (6, ⟨.int .u8, 1, false, [.int .u8 0]⟩),
  (7, ⟨.struct [(0, 2), (1, 3), (2, 4), (3, 6)], 4, true, [.int .i64 0, .int .i64 0, .lit false, .int .u8 0]⟩),
  (8, ⟨.struct [(0, 2), (1, 3), (2, 4), (3, 6)], 4, true, [.int .i64 0, .int .i64 0, .lit false, .int .u8 0]⟩),
  (9, ⟨.str, 1, false, [.str []]⟩),
  (10, ⟨.str, 1, false, [.str []]⟩),
  (11, ⟨.str, 1, false, [.str []]⟩),
  (12, ⟨.int .u64, 1, false, [.int .u64 0]⟩),
  (13, ⟨.struct [(0, 9), (1, 12)], 2, true, [.str [], .int .u64 0]⟩),
  (14, ⟨.struct [(0, 9), (1, 12)], 2, true, [.str [], .int .u64 0]⟩),
  (15, ⟨.other, 1, false, [.any (Go.Value.pointer none)]⟩),
  (16, ⟨.other, 1, false, [.any (Go.Value.pointer none)]⟩),
  (17, ⟨.other, 1, false, [.any (Go.Value.pointer none)]⟩),
  (18, ⟨.struct [(0, 17)], 1, true, [.any (Go.Value.pointer none)]⟩),
  (19, ⟨.struct [(0, 17)], 1, true, [.any (Go.Value.pointer none)]⟩),
  (20, ⟨.other, 1, false, [.any (Go.Value.nilIface)]⟩),
  (21, ⟨.int .i32, 1, false, [.int .i32 0]⟩),
  (22, ⟨.other, 1, false, [.any (Go.Value.nilFunc)]⟩),
  (23, ⟨.other, 1, false, [.any (Go.Value.nilFunc)]⟩),
  (24, ⟨.slice 35, 1, false, [.any (Go.Value.slice none 0 0)]⟩),
  (25, ⟨.other, 1, false, [.any (Go.Value.nilFunc)]⟩),
  (26, ⟨.other, 1, false, [.any (Go.Value.nilFunc)]⟩),
  (27, ⟨.slice 9, 1, false, [.any (Go.Value.slice none 0 0)]⟩),
  (28, ⟨.other, 1, false, [.any (Go.Value.nilFunc)]⟩),
  (29, ⟨.other, 1, false, [.any (Go.Value.nilFunc)]⟩),
  (30, ⟨.other, 1, false, [.any (Go.Value.map none)]⟩),
  (31, ⟨.other, 1, false, [.any (Go.Value.nilFunc)]⟩),
  (33, ⟨.other, 1, false, [.any (Go.Value.nilFunc)]⟩),
  (34, ⟨.struct [(0, 21), (1, 4), (2, 4)], 3, true, [.int .i32 0, .lit false, .lit false]⟩),
  (35, ⟨.struct [(0, 21), (1, 4), (2, 4)], 3, true, [.int .i32 0, .lit false, .lit false]⟩),
  (36, ⟨.slice 4, 1, false, [.any (Go.Value.slice none 0 0)]⟩),
  (38, ⟨.other, 1, false, [.any (Go.Value.nilFunc)]⟩),
  (39, ⟨.slice 5, 1, false, [.any (Go.Value.slice none 0 0)]⟩),
  (40, ⟨.int .u64, 1, false, [.int .u64 0]⟩),
  (42, ⟨.struct [(0, 5), (1, 5)], 2, true, [.int .u8 0, .int .u8 0]⟩),
  (43, ⟨.struct [(0, 5), (1, 5)], 2, true, [.int .u8 0, .int .u8 0]⟩),
  (45, ⟨.other, 1, false, [.any (Go.Value.nilFunc)]⟩),
  (46, ⟨.struct [(0, 17), (1, 17), (2, 17), (3, 9)], 4, true, [.any (Go.Value.pointer none), .any (Go.Value.pointer none), .any (Go.Value.pointer none), .str []]⟩),
  (47, ⟨.struct [(0, 17), (1, 17), (2, 17), (3, 9)], 4, true, [.any (Go.Value.pointer none), .any (Go.Value.pointer none), .any (Go.Value.pointer none), .str []]⟩),
  (48, ⟨.other, 0, true, []⟩),
  (49, ⟨.struct [(0, 48)], 0, true, []⟩),
  (50, ⟨.struct [(0, 48)], 0, true, []⟩),
  (51, ⟨.other, 1, false, [.any (Go.Value.nilFunc)]⟩),
  (52, ⟨.int .u32, 1, false, [.int .u32 0]⟩),
  (53, ⟨.int .u8, 1, false, [.int .u8 0]⟩),
  (54, ⟨.int .u8, 1, false, [.int .u8 0]⟩),
  (55, ⟨.other, 1, false, [.any (Go.Value.nilFunc)]⟩),
  (56, ⟨.other, 1, false, [.any (Go.Value.pointer none)]⟩),
  (57, ⟨.int .i32, 1, false, [.int .i32 0]⟩),
  (58, ⟨.int .i32, 1, false, [.int .i32 0]⟩),
  (59, ⟨.struct [(0, 12), (1, 12), (2, 52), (3, 53), (4, 5), (5, 5), (6, 54), (7, 55), (8, 56), (9, 57), (10, 58)], 11, true, [.int .u64 0, .int .u64 0, .int .u32 0, .int .u8 0, .int .u8 0, .int .u8 0, .int .u8 0, .any (Go.Value.nilFunc), .any (Go.Value.pointer none), .int .i32 0, .int .i32 0]⟩),
  (60, ⟨.struct [(0, 12), (1, 12), (2, 52), (3, 53), (4, 5), (5, 5), (6, 54), (7, 55), (8, 56), (9, 57), (10, 58)], 11, true, [.int .u64 0, .int .u64 0, .int .u32 0, .int .u8 0, .int .u8 0, .int .u8 0, .int .u8 0, .any (Go.Value.nilFunc), .any (Go.Value.pointer none), .int .i32 0, .int .i32 0]⟩),
  (61, ⟨.other, 1, false, [.any (Go.Value.pointer none)]⟩)]
set_option maxRecDepth 100000 in
theorem env_ok : EnvOK Tryd.prog env := ⟨⟨Tryd.sizeOf1, Tryd.isAgg1, fun w => ⟨_, Tryd.zeroValue1 w, fun _ => rfl, ⟨rfl, trivial⟩⟩, trivial⟩,
  ⟨Tryd.sizeOf2, Tryd.isAgg2, fun w => ⟨_, Tryd.zeroValue2 w, fun _ => rfl, ⟨trivial, trivial⟩⟩, Tryd.underlying2⟩,
  ⟨Tryd.sizeOf3, Tryd.isAgg3, fun w => ⟨_, Tryd.zeroValue3 w, fun _ => rfl, ⟨trivial, trivial⟩⟩, Tryd.underlying3⟩,
  ⟨Tryd.sizeOf4, Tryd.isAgg4, fun w => ⟨_, Tryd.zeroValue4 w, fun _ => rfl, ⟨trivial, trivial⟩⟩, Tryd.underlying4⟩,
  ⟨Tryd.sizeOf5, Tryd.isAgg5, fun w => ⟨_, Tryd.zeroValue5 w, fun _ => rfl, ⟨trivial, trivial⟩⟩, Tryd.underlying5⟩,
  ⟨Tryd.sizeOf6, Tryd.isAgg6, fun w => ⟨_, Tryd.zeroValue6 w, fun _ => rfl, ⟨trivial, trivial⟩⟩, Tryd.underlying6⟩,
  ⟨Tryd.sizeOf7, Tryd.isAgg7, fun w => ⟨_, Tryd.zeroValue7 w, fun _ => rfl, ⟨trivial, trivial, trivial, trivial, trivial⟩⟩, ⟨_, Tryd.underlying7, rfl⟩⟩,
  ⟨Tryd.sizeOf8, Tryd.isAgg8, fun w => ⟨_, Tryd.zeroValue8 w, fun _ => rfl, ⟨trivial, trivial, trivial, trivial, trivial⟩⟩, ⟨_, Tryd.underlying8, rfl⟩⟩,
  ⟨Tryd.sizeOf9, Tryd.isAgg9, fun w => ⟨_, Tryd.zeroValue9 w, fun _ => rfl, ⟨trivial, trivial⟩⟩, Tryd.underlying9⟩,
  ⟨Tryd.sizeOf10, Tryd.isAgg10, fun w => ⟨_, Tryd.zeroValue10 w, fun _ => rfl, ⟨trivial, trivial⟩⟩, Tryd.underlying10⟩,
  ⟨Tryd.sizeOf11, Tryd.isAgg11, fun w => ⟨_, Tryd.zeroValue11 w, fun _ => rfl, ⟨trivial, trivial⟩⟩, Tryd.underlying11⟩,
  ⟨Tryd.sizeOf12, Tryd.isAgg12, fun w => ⟨_, Tryd.zeroValue12 w, fun _ => rfl, ⟨trivial, trivial⟩⟩, Tryd.underlying12⟩,
  ⟨Tryd.sizeOf13, Tryd.isAgg13, fun w => ⟨_, Tryd.zeroValue13 w, fun _ => rfl, ⟨trivial, trivial, trivial⟩⟩, ⟨_, Tryd.underlying13, rfl⟩⟩,
  ⟨Tryd.sizeOf14, Tryd.isAgg14, fun w => ⟨_, Tryd.zeroValue14 w, fun _ => rfl, ⟨trivial, trivial, trivial⟩⟩, ⟨_, Tryd.underlying14, rfl⟩⟩,
  ⟨Tryd.sizeOf15, Tryd.isAgg15, fun w => ⟨_, Tryd.zeroValue15 w, fun _ => rfl, ⟨rfl, trivial⟩⟩, trivial⟩,
  ⟨Tryd.sizeOf16, Tryd.isAgg16, fun w => ⟨_, Tryd.zeroValue16 w, fun _ => rfl, ⟨rfl, trivial⟩⟩, trivial⟩,
  ⟨Tryd.sizeOf17, Tryd.isAgg17, fun w => ⟨_, Tryd.zeroValue17 w, fun _ => rfl, ⟨rfl, trivial⟩⟩, trivial⟩,
  ⟨Tryd.sizeOf18, Tryd.isAgg18, fun w => ⟨_, Tryd.zeroValue18 w, fun _ => rfl, ⟨rfl, trivial⟩⟩, ⟨_, Tryd.underlying18, rfl⟩⟩,
  ⟨Tryd.sizeOf19, Tryd.isAgg19, fun w => ⟨_, Tryd.zeroValue19 w, fun _ => rfl, ⟨rfl, trivial⟩⟩, ⟨_, Tryd.underlying19, rfl⟩⟩,
  ⟨Tryd.sizeOf20, Tryd.isAgg20, fun w => ⟨_, Tryd.zeroValue20 w, fun _ => rfl, ⟨rfl, trivial⟩⟩, trivial⟩,
  ⟨Tryd.sizeOf21, Tryd.isAgg21, fun w => ⟨_, Tryd.zeroValue21 w, fun _ => rfl, ⟨trivial, trivial⟩⟩, Tryd.underlying21⟩,
  ⟨Tryd.sizeOf22, Tryd.isAgg22, fun w => ⟨_, Tryd.zeroValue22 w, fun _ => rfl, ⟨rfl, trivial⟩⟩, trivial⟩,
  ⟨Tryd.sizeOf23, Tryd.isAgg23, fun w => ⟨_, Tryd.zeroValue23 w, fun _ => rfl, ⟨rfl, trivial⟩⟩, trivial⟩,
  ⟨Tryd.sizeOf24, Tryd.isAgg24, fun w => ⟨_, Tryd.zeroValue24 w, fun _ => rfl, ⟨rfl, trivial⟩⟩, Tryd.underlying24⟩,
  ⟨Tryd.sizeOf25, Tryd.isAgg25, fun w => ⟨_, Tryd.zeroValue25 w, fun _ => rfl, ⟨rfl, trivial⟩⟩, trivial⟩,
  ⟨Tryd.sizeOf26, Tryd.isAgg26, fun w => ⟨_, Tryd.zeroValue26 w, fun _ => rfl, ⟨rfl, trivial⟩⟩, trivial⟩,
  ⟨Tryd.sizeOf27, Tryd.isAgg27, fun w => ⟨_, Tryd.zeroValue27 w, fun _ => rfl, ⟨rfl, trivial⟩⟩, Tryd.underlying27⟩,
  ⟨Tryd.sizeOf28, Tryd.isAgg28, fun w => ⟨_, Tryd.zeroValue28 w, fun _ => rfl, ⟨rfl, trivial⟩⟩, trivial⟩,
  ⟨Tryd.sizeOf29, Tryd.isAgg29, fun w => ⟨_, Tryd.zeroValue29 w, fun _ => rfl, ⟨rfl, trivial⟩⟩, trivial⟩,
  ⟨Tryd.sizeOf30, Tryd.isAgg30, fun w => ⟨_, Tryd.zeroValue30 w, fun _ => rfl, ⟨rfl, trivial⟩⟩, trivial⟩,
  ⟨Tryd.sizeOf31, Tryd.isAgg31, fun w => ⟨_, Tryd.zeroValue31 w, fun _ => rfl, ⟨rfl, trivial⟩⟩, trivial⟩,
  ⟨Tryd.sizeOf33, Tryd.isAgg33, fun w => ⟨_, Tryd.zeroValue33 w, fun _ => rfl, ⟨rfl, trivial⟩⟩, trivial⟩,
  ⟨Tryd.sizeOf34, Tryd.isAgg34, fun w => ⟨_, Tryd.zeroValue34 w, fun _ => rfl, ⟨trivial, trivial, trivial, trivial⟩⟩, ⟨_, Tryd.underlying34, rfl⟩⟩,
  ⟨Tryd.sizeOf35, Tryd.isAgg35, fun w => ⟨_, Tryd.zeroValue35 w, fun _ => rfl, ⟨trivial, trivial, trivial, trivial⟩⟩, ⟨_, Tryd.underlying35, rfl⟩⟩,
  ⟨Tryd.sizeOf36, Tryd.isAgg36, fun w => ⟨_, Tryd.zeroValue36 w, fun _ => rfl, ⟨rfl, trivial⟩⟩, Tryd.underlying36⟩,
  ⟨Tryd.sizeOf38, Tryd.isAgg38, fun w => ⟨_, Tryd.zeroValue38 w, fun _ => rfl, ⟨rfl, trivial⟩⟩, trivial⟩,
  ⟨Tryd.sizeOf39, Tryd.isAgg39, fun w => ⟨_, Tryd.zeroValue39 w, fun _ => rfl, ⟨rfl, trivial⟩⟩, Tryd.underlying39⟩,
  ⟨Tryd.sizeOf40, Tryd.isAgg40, fun w => ⟨_, Tryd.zeroValue40 w, fun _ => rfl, ⟨trivial, trivial⟩⟩, Tryd.underlying40⟩,
  ⟨Tryd.sizeOf42, Tryd.isAgg42, fun w => ⟨_, Tryd.zeroValue42 w, fun _ => rfl, ⟨trivial, trivial, trivial⟩⟩, ⟨_, Tryd.underlying42, rfl⟩⟩,
  ⟨Tryd.sizeOf43, Tryd.isAgg43, fun w => ⟨_, Tryd.zeroValue43 w, fun _ => rfl, ⟨trivial, trivial, trivial⟩⟩, ⟨_, Tryd.underlying43, rfl⟩⟩,
  ⟨Tryd.sizeOf45, Tryd.isAgg45, fun w => ⟨_, Tryd.zeroValue45 w, fun _ => rfl, ⟨rfl, trivial⟩⟩, trivial⟩,
  ⟨Tryd.sizeOf46, Tryd.isAgg46, fun w => ⟨_, Tryd.zeroValue46 w, fun _ => rfl, ⟨rfl, rfl, rfl, trivial, trivial⟩⟩, ⟨_, Tryd.underlying46, rfl⟩⟩,
  ⟨Tryd.sizeOf47, Tryd.isAgg47, fun w => ⟨_, Tryd.zeroValue47 w, fun _ => rfl, ⟨rfl, rfl, rfl, trivial, trivial⟩⟩, ⟨_, Tryd.underlying47, rfl⟩⟩,
  ⟨Tryd.sizeOf48, Tryd.isAgg48, fun w => ⟨_, Tryd.zeroValue48 w, fun _ => rfl, trivial⟩, trivial⟩,
  ⟨Tryd.sizeOf49, Tryd.isAgg49, fun w => ⟨_, Tryd.zeroValue49 w, fun _ => rfl, trivial⟩, ⟨_, Tryd.underlying49, rfl⟩⟩,
  ⟨Tryd.sizeOf50, Tryd.isAgg50, fun w => ⟨_, Tryd.zeroValue50 w, fun _ => rfl, trivial⟩, ⟨_, Tryd.underlying50, rfl⟩⟩,
  ⟨Tryd.sizeOf51, Tryd.isAgg51, fun w => ⟨_, Tryd.zeroValue51 w, fun _ => rfl, ⟨rfl, trivial⟩⟩, trivial⟩,
  ⟨Tryd.sizeOf52, Tryd.isAgg52, fun w => ⟨_, Tryd.zeroValue52 w, fun _ => rfl, ⟨trivial, trivial⟩⟩, Tryd.underlying52⟩,
  ⟨Tryd.sizeOf53, Tryd.isAgg53, fun w => ⟨_, Tryd.zeroValue53 w, fun _ => rfl, ⟨trivial, trivial⟩⟩, Tryd.underlying53⟩,
  ⟨Tryd.sizeOf54, Tryd.isAgg54, fun w => ⟨_, Tryd.zeroValue54 w, fun _ => rfl, ⟨trivial, trivial⟩⟩, Tryd.underlying54⟩,
  ⟨Tryd.sizeOf55, Tryd.isAgg55, fun w => ⟨_, Tryd.zeroValue55 w, fun _ => rfl, ⟨rfl, trivial⟩⟩, trivial⟩,
  ⟨Tryd.sizeOf56, Tryd.isAgg56, fun w => ⟨_, Tryd.zeroValue56 w, fun _ => rfl, ⟨rfl, trivial⟩⟩, trivial⟩,
  ⟨Tryd.sizeOf57, Tryd.isAgg57, fun w => ⟨_, Tryd.zeroValue57 w, fun _ => rfl, ⟨trivial, trivial⟩⟩, Tryd.underlying57⟩,
  ⟨Tryd.sizeOf58, Tryd.isAgg58, fun w => ⟨_, Tryd.zeroValue58 w, fun _ => rfl, ⟨trivial, trivial⟩⟩, Tryd.underlying58⟩,
  ⟨Tryd.sizeOf59, Tryd.isAgg59, fun w => ⟨_, Tryd.zeroValue59 w, fun _ => rfl, ⟨trivial, trivial, trivial, trivial, trivial, trivial, trivial, rfl, rfl, trivial, trivial, trivial⟩⟩, ⟨_, Tryd.underlying59, rfl⟩⟩,
  ⟨Tryd.sizeOf60, Tryd.isAgg60, fun w => ⟨_, Tryd.zeroValue60 w, fun _ => rfl, ⟨trivial, trivial, trivial, trivial, trivial, trivial, trivial, rfl, rfl, trivial, trivial, trivial⟩⟩, ⟨_, Tryd.underlying60, rfl⟩⟩,
  ⟨Tryd.sizeOf61, Tryd.isAgg61, fun w => ⟨_, Tryd.zeroValue61 w, fun _ => rfl, ⟨rfl, trivial⟩⟩, trivial⟩, (show Tryd.prog.follows .mixedOrders = true by kernel_rfl)⟩
end Sym
end Go.Proofs.YtlccmanncfbdkaaDoor
