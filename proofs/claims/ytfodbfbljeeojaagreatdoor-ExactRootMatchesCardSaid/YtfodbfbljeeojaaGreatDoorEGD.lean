/- A walk that reckons: slices of the function's own, of elements of any size. A walk that reckons: a builder of strings of the function's own; a new beginning in the midst of a walk. A walk that reckons: a scope through which the run goes without a jump. -/
import Derived.Test.YtfodbfbljeeojaaGreatDoorEGC
import Derived.Lib.FrozenHead
import Derived.Scope
set_option linter.unusedSimpArgs false
set_option linter.unusedVariables false
namespace Go.Proofs.YtfodbfbljeeojaaGreatDoor
open Go.RowKit
namespace Sym
def OwnS (e : TypeId) (sz g n cap : Nat) (xs : List Value) (b : Nat) (o : Option Obj) : Prop := b = g ∧ ∃ cur, o = some (.cells cur e (0, 0)) ∧ n ≤ cap ∧ cap ≤ maxLen ∧ cur.size = cap * sz ∧ cur.toList.take (n * sz) = xs ∧ xs.length = n * sz
theorem OwnS.owns {e : TypeId} {sz g n cap : Nat} {xs : List Value} {b base : Nat} {w : World} (h : OwnS e sz g n cap xs b w.heap[b]?) (hb : base ≤ b) : w.ownsRow base e sz (.slice (some ⟨g, 0, none⟩) n cap) n xs := by
  obtain ⟨rfl, cur, h1, h2, h3, h4, h5, h6⟩ := h
  exact ⟨h6, .inr ⟨b, cap, cur, rfl, hb, h1, h2, h3, h4, h5⟩⟩
theorem OwnS.cell {e : TypeId} {sz g n cap : Nat} {xs : List Value} {b : Nat} {w : World} (h : OwnS e sz g n cap xs b w.heap[b]?) : ∀ j u, xs[j]? = some u → w.cell? ((⟨g, 0, none⟩ : Addr).add j) = some u := by
  obtain ⟨rfl, cur, h1, h2, h3, h4, h5, h6⟩ := h
  intro j u hj
  rw [add_at]
  have hjn : j < n * sz := by have := (List.getElem?_eq_some_iff.1 hj).1; omega
  have : cur[j]? = some u := by
    rw [← h5, List.getElem?_take, if_pos hjn] at hj
    simpa using hj
  simp [World.cell?, h1, this]
theorem OwnS.slAt {e : TypeId} {sz g n cap : Nat} {xs : List Value} {b : Nat} {w : World} (h : OwnS e sz g n cap xs b w.heap[b]?) (hb : b < w.heap.size) : SlAt (some ⟨g, 0, none⟩) xs w := fun j u hj => ⟨_, rfl, by rw [← h.1]; exact hb, h.cell j u hj⟩
theorem fill_whole {sz : Nat} {u : Value} {xs : List Value} (hu : u.cells = xs.toArray) (hl : xs.length = sz) (A : Array Value) (hA : A.size = sz) : Instr.fill (fun i => some (i * sz, sz)) A [(0, u)] = some xs.toArray := by
  simp only [Instr.fill, hu, Nat.zero_mul]
  rw [if_neg (by simp; omega)]
  congr 1
  have := foldl_set 0 xs 0 A (by omega)
  rw [← Array.foldl_toList, Array.toList_zipIdx]
  simp only [Nat.add_zero, Nat.zero_add] at this ⊢
  refine this.trans ?_
  rw [List.drop_eq_nil_of_le (by simp; omega)]
  simp
theorem opx_build1 {C : Ctx} {d : Nat} {ty : TypeId} {pos : String} {after : Array Edge} {gd : Option (Nat × Bool)} {fr : List (Nat × SV)} {rows : List (Nat × Bool × SRow)} {nx n : Nat} {K : St → Prop}
    {x : Operand} {t e : TypeId} {sz : Nat} {v : SV} {vs : List SV} {xs : List Value} {z0 : Value} (hd : Nat.blt d n = true) (hx : ev fr x = some v) (hc : cellsSV v = some vs) (hxs : ∀ β, SV.dens β vs = xs) (hl : xs.length = sz) (h0 : 0 < sz) (hk : sz ≤ 1000)
    (ht : C.P.underlying t = some (.slice e)) (hs : ∀ w, (sizeOf e).run C.P w = .ok sz w) (hz : ∀ w, (zeroValue e).run C.P w = .ok z0 w)
    (h : ∀ g, K ⟨(d, .any (.slice (some ⟨g, 0, none⟩) 1 1)) :: fr, (nx, true, .blob (OwnS e sz g 1 1 xs)) :: rows, nx + 1, n⟩) :
    OpX C ⟨some d, .buildSlice t 1 ⟨[(0, x)]⟩, ty, pos, after, gd⟩ ⟨fr, rows, nx, n⟩ K := by
  unfold OpX
  intro β a w hs0 next Q hn
  obtain ⟨e1, hok⟩ := ev_sound hs0 hx
  obtain ⟨ec, -⟩ := cells_sound (β := β) hc hok
  rw [hxs β] at ec
  have q0 : (underlying t).run C.P w = .ok (.slice e) w := by simp [underlying, ht]
  have hA : ((Array.range (1 * sz)).map (z0.cells[· % z0.cells.size]!)).size = sz := by simp
  have hf := fill_whole ec hl _ hA
  have hrun : (execOp a.eval ⟨some d, .buildSlice t 1 ⟨[(0, x)]⟩, ty, pos, after, gd⟩).run C.P w = .ok (.value (.slice (some ⟨w.heap.size, 0, none⟩) 1 1)) (w.alloc (.cells xs.toArray e)) := by
    have n1 : ¬ 1 * sz > 2 ^ 24 := by omega
    have n2 : ¬ 1 * sz = 0 := by omega
    simp only [execOp, Sem.run_bind]
    unfold Instr.buildSlice
    simp only [Sem.run_bind, q0, Result.andThen_ok, hs, if_neg n1, if_neg n2, hz, Sem.run_pure]
    have e3 : ((#[(0, x)] : Array (Nat × Operand)).map fun (i, y) => (i, a.eval y)).toList = [(0, v.den β)] := by simp [e1]
    simp only [e3, hf, Sem.run_bind, newRow, World.alloc_eq]
    simp [World.alloc_eq]
  unfold Oper.wp
  rw [hrun]
  have hs2 := hs0.alloc (r := .blob (OwnS e sz w.heap.size 1 1 xs)) trivial (.cells xs.toArray e) (fun β' hb => ⟨by simp, rfl, xs.toArray, by have := Row.new w e xs.toArray; unfold Row at this; exact this, Nat.le_refl _, by unfold maxLen; omega, by simp [hl], by simp [List.take_of_length_le, hl], by omega⟩) rfl
  have hs3 := hs2.put (d := d) (by simpa [Nat.blt_eq] using hd) (v := .any (.slice (some ⟨w.heap.size, 0, none⟩) 1 1)) rfl
  exact hn _ _ _ _ (h w.heap.size) hs3
theorem opx_append {C : Ctx} {d : Nat} {ty : TypeId} {pos : String} {after : Array Edge} {gd : Option (Nat × Bool)} {fr : List (Nat × SV)} {rows : List (Nat × Bool × SRow)} {nx n : Nat} {K : St → Prop}
    {x y : Operand} {t e : TypeId} {sz : Nat} (i j : Nat) {g n1 cap1 g2 m c2 : Nat} {xs ys : List Value} {inf : TypeInfo} {z : Value} (hd : Nat.blt d n = true)
    (ht : C.P.underlying t = some (.slice e)) (hi : C.P.info? e = some inf) (hz : inf.zero = some z) (hsize : inf.size = sz) (hzs : z.cells.size = sz) (h0 : 0 < sz)
    (hx : ev fr x = some (.any (.slice (some ⟨g, 0, none⟩) n1 cap1))) (hy : ev fr y = some (.any (.slice (some ⟨g2, 0, none⟩) m c2)))
    (ri : get rows i = some (true, .blob (OwnS e sz g n1 cap1 xs))) (rj : get rows j = some (true, .blob (OwnS e sz g2 m c2 ys)))
    (h63 : n1 + m ≤ maxLen) (hbytes : (n1 + m) * inf.bytes ≤ 140737488355328) (h1 : ∀ u ∈ ys, u.oneCell' = true) (hno : (mentF i fr || mentR i rows) = false) (hni : C.w0.n0 ≤ i)
    (h : ∀ g' cap', K ⟨(d, .any (.slice (some ⟨g', 0, none⟩) (n1 + m) cap')) :: fr, (i, true, .blob (OwnS e sz g' (n1 + m) cap' (xs ++ ys))) :: rows, nx, n⟩) :
    OpX C ⟨some d, .call ⟨.builtin .append, ⟨[x, y]⟩, ⟨[t, t]⟩⟩, ty, pos, after, gd⟩ ⟨fr, rows, nx, n⟩ K := by
  unfold OpX
  intro β a w hs next Q hnn0
  have hm := hs.mem
  obtain ⟨qi, -, qi3, qi4⟩ := hm.row i _ _ ri
  obtain ⟨qj, -, qj3, -⟩ := hm.row j _ _ rj
  have qi3 : i < nx := qi3
  have hown := OwnS.owns qi.2 (qi4 rfl)
  have hg : β i = g := qi.2.1
  have hnews := OwnS.cell qj.2
  have hml : ys.length = m * sz := by obtain ⟨-, cur, -, -, -, -, -, h6⟩ := qj.2; exact h6
  obtain ⟨v', w', hr, h2, h3, h4, h5⟩ := run_append_own_at (P := C.P) w C.base t ty e inf z sz inf.bytes ht hi hz hsize rfl hzs h0 _ n1 xs hown ⟨g2, 0, none⟩ m c2 ys hml hnews h1 h63 hbytes hm.base_le
  have hnn : ¬ v' = .slice none 0 0 := fun e0 => by have := (h4.1 e0).1; cases this
  obtain ⟨hlen, hor⟩ := h2
  rcases hor with ⟨e0, e1⟩ | ⟨g', cap', cur, rfl, hb', hc', hn', hm', hs', ht'⟩
  · exact absurd e0 hnn
  have hblk : g' = g ∨ g' = w.heap.size := by simpa [Value.ownBlock] using h5
  unfold Oper.wp
  have e1 := (ev_sound hs hx).1
  have e2 := (ev_sound hs hy).1
  have hrun : (execOp a.eval ⟨some d, .call ⟨.builtin .append, ⟨[x, y]⟩, ⟨[t, t]⟩⟩, ty, pos, after, gd⟩).run C.P w = .ok (.value (.slice (some ⟨g', 0, none⟩) (n1 + m) cap')) w' := by
    unfold execOp
    simp only [resolve, invoke, builtin, Sem.run_bind, Sem.run_pure, Result.andThen_ok, List.map_toArray, List.map_cons, List.map_nil, e1, e2, SV.den, hr]
  rw [hrun]
  have hgs : g < w.heap.size := by rw [← hg]; exact qi.1
  have hsz' : g' < w'.heap.size := by
    rcases Nat.lt_or_ge g' w'.heap.size with h0 | h0
    · exact h0
    · rw [Array.getElem?_eq_none h0] at hc'; cases hc'
  have hbg : C.base ≤ g := by rw [← hg]; exact qi4 rfl
  simp only [Bool.or_eq_false_iff] at hno
  have hβ : ∀ q, q ≠ i → (fun q => if q = i then g' else β q) q = β q := fun q hq => by dsimp only; rw [if_neg hq]
  have hapart : ∀ q o r, get rows q = some (o, r) → q ≠ i → β q ≠ g := fun q o r hq hne => by rw [← hg]; exact hm.inj i q _ o r ri hq hne
  have hother : ∀ p o r', get rows p = some (o, r') → p ≠ i → β p ≠ g' := fun p o r' hp hpi => by
    rcases hblk with e0 | e0
    · rw [e0]; exact hapart p o r' hp hpi
    · have := hm.lt p (hm.row p o r' hp).2.2.1; omega
  have hs2 : Sat C.base C.w0 ⟨fr, (i, true, .blob (OwnS e sz g' (n1 + m) cap' (xs ++ ys))) :: rows, nx, n⟩ (fun q => if q = i then g' else β q) a w' := by
    refine ⟨hs.defers, hs.size, fun s v hv => ?_, ⟨hm.below.os ▸ h3.os, hm.below.tape ▸ h3.tape, hm.below.output ▸ h3.output, Nat.le_trans hm.below.size h3.size, fun q hq => ?_⟩, Nat.le_trans hm.base_le h3.size, fun q o r hq => ?_, fun q hq => ?_, fun q p r o r' hq hp hpq => ?_, hm.n0, fun q hq => ?_⟩
    · obtain ⟨k1, k2⟩ := hs.slot s v hv
      exact ⟨by rw [k1, ment_den hβ v (mentF_get fr hno.1 hv)], k2⟩
    · rw [h3.block q (Nat.lt_of_lt_of_le hq hm.base_le) (by simp [Value.ownBlock]; omega)]; exact hm.below.block q hq
    · rw [get_cons] at hq
      by_cases e0 : i = q
      · rw [if_pos e0] at hq
        cases hq
        subst e0
        dsimp only
        rw [if_pos rfl]
        exact ⟨⟨hsz', rfl, cur, hc', hn', hm', hs', ht', hlen⟩, trivial, qi3, fun _ => hb'⟩
      · rw [if_neg e0] at hq
        obtain ⟨k1, k2, k3, k4⟩ := hm.row q o r hq
        have hqi : q ≠ i := fun e => e0 e.symm
        dsimp only
        rw [if_neg hqi]
        have k5 := RowIs_block (h3.block _ (hm.lt q k3) (by simp [Value.ownBlock]; exact hapart q o r hq hqi)) h3.size k1
        refine ⟨?_, k2, k3, k4⟩
        cases r with
        | cells t' cs => simp only [RowIs] at k5 ⊢; rw [ments_den hβ cs (mentR_get rows hno.2 hq)]; exact k5
        | blob Φ => exact k5
    · have hq : q < nx := hq
      by_cases e0 : q = i
      · rw [if_pos e0]; exact hsz'
      · rw [if_neg e0]; exact Nat.lt_of_lt_of_le (hm.lt q hq) h3.size
    · rw [get_cons] at hq hp
      by_cases e0 : i = q
      · rw [if_neg (by omega)] at hp
        rw [if_pos e0.symm, if_neg (by omega)]
        exact hother p o r' hp (by omega)
      · rw [if_neg e0] at hq
        rw [if_neg (by omega : ¬ q = i)]
        by_cases e2 : i = p
        · rw [if_pos e2.symm]; exact fun e3 => hother q _ _ hq (by omega) e3.symm
        · rw [if_neg e2] at hp
          rw [if_neg (by omega)]
          exact hm.inj q p r o r' hq hp hpq
    · rw [if_neg (by omega)]; exact hm.ext q hq
  have hs3 := hs2.put (d := d) (by simpa [Nat.blt_eq] using hd) (v := .any (.slice (some ⟨g', 0, none⟩) (n1 + m) cap')) rfl
  exact hnn0 _ _ _ _ (h g' cap') hs3
/-- the first append, to no slice at all -/
theorem opx_append0 {C : Ctx} {d : Nat} {ty : TypeId} {pos : String} {after : Array Edge} {gd : Option (Nat × Bool)} {fr : List (Nat × SV)} {rows : List (Nat × Bool × SRow)} {nx n : Nat} {K : St → Prop}
    {x y : Operand} {t e : TypeId} {sz : Nat} (j : Nat) {g2 m c2 : Nat} {ys : List Value} {inf : TypeInfo} {z : Value} (hd : Nat.blt d n = true)
    (ht : C.P.underlying t = some (.slice e)) (hi : C.P.info? e = some inf) (hz : inf.zero = some z) (hsize : inf.size = sz) (hzs : z.cells.size = sz) (h0 : 0 < sz)
    (hx : ev fr x = some (.any (.slice none 0 0))) (hy : ev fr y = some (.any (.slice (some ⟨g2, 0, none⟩) m c2)))
    (rj : get rows j = some (true, .blob (OwnS e sz g2 m c2 ys)))
    (h63 : m ≤ maxLen) (hbytes : m * inf.bytes ≤ 140737488355328) (h1 : ∀ u ∈ ys, u.oneCell' = true) (hm0 : 0 < m)
    (h : ∀ g' cap', K ⟨(d, .any (.slice (some ⟨g', 0, none⟩) m cap')) :: fr, (nx, true, .blob (OwnS e sz g' m cap' ys)) :: rows, nx + 1, n⟩) :
    OpX C ⟨some d, .call ⟨.builtin .append, ⟨[x, y]⟩, ⟨[t, t]⟩⟩, ty, pos, after, gd⟩ ⟨fr, rows, nx, n⟩ K := by
  unfold OpX
  intro β a w hs next Q hnn0
  have hm := hs.mem
  obtain ⟨qj, -, qj3, -⟩ := hm.row j _ _ rj
  have hnews := OwnS.cell qj.2
  have hml : ys.length = m * sz := by obtain ⟨-, cur, -, -, -, -, -, h6⟩ := qj.2; exact h6
  obtain ⟨v', w', hr, h2, h3, h4, h5⟩ := run_append_own_at (P := C.P) w C.base t ty e inf z sz inf.bytes ht hi hz hsize rfl hzs h0 _ 0 [] (owns_nil w C.base e sz) ⟨g2, 0, none⟩ m c2 ys hml hnews h1 (by omega) (by rw [Nat.zero_add]; exact hbytes) hm.base_le
  have hnn : ¬ v' = .slice none 0 0 := fun e0 => by have := (h4.1 e0).2; omega
  obtain ⟨hlen, hor⟩ := h2
  rcases hor with ⟨e0, e1⟩ | ⟨g', cap', cur, rfl, hb', hc', hn', hm', hs', ht'⟩
  · exact absurd e0 hnn
  have hblk : g' = w.heap.size := by simpa [Value.ownBlock] using h5
  unfold Oper.wp
  have e1 := (ev_sound hs hx).1
  have e2 := (ev_sound hs hy).1
  have hrun : (execOp a.eval ⟨some d, .call ⟨.builtin .append, ⟨[x, y]⟩, ⟨[t, t]⟩⟩, ty, pos, after, gd⟩).run C.P w = .ok (.value (.slice (some ⟨g', 0, none⟩) (0 + m) cap')) w' := by
    unfold execOp
    simp only [resolve, invoke, builtin, Sem.run_bind, Sem.run_pure, Result.andThen_ok, List.map_toArray, List.map_cons, List.map_nil, e1, e2, SV.den, hr]
  rw [hrun]
  simp only [Nat.zero_add, List.nil_append] at *
  have hsz' : g' < w'.heap.size := by
    rcases Nat.lt_or_ge g' w'.heap.size with h0 | h0
    · exact h0
    · rw [Array.getElem?_eq_none h0] at hc'; cases hc'
  have hbel : Below w.heap.size w w' := ⟨h3.os, h3.tape, h3.output, h3.size, fun k hk => h3.block k hk (by simp [Value.ownBlock])⟩
  have hs' : Sat C.base C.w0 ⟨fr, rows, nx, n⟩ β a w' := ⟨hs.defers, hs.size, hs.slot, hm.belowNext hbel⟩
  have hs2 := hs'.learn (o := true) (b := g') (Φ := OwnS e sz g' m cap' ys) hsz' ⟨rfl, cur, hc', hn', hm', by assumption, ht', hlen⟩ (fun _ => ⟨hb', fun i o' r hi => by have := hm.lt i (hm.row i o' r hi).2.2.1; omega⟩) (fun i r hi => by have := hm.lt i (hm.row i true r hi).2.2.1; omega)
  have hs3 := hs2.put (d := d) (by simpa [Nat.blt_eq] using hd) (v := .any (.slice (some ⟨g', 0, none⟩) m cap')) rfl
  exact hnn0 _ _ _ _ (h g' cap') hs3
/-- a call that answers with a slice of its own making, among others; whatever follows -/
theorem callSlX {C : Ctx} {d : Nat} {f : FuncId} {args : List SV} {fr : List (Nat × SV)} {rows : List (Nat × Bool × SRow)} {nx n : Nat} {K : St → Prop} {T : Type}
    (V : T → SV) (A : T → Option Addr) (X : T → List Value) (h0 : 0 < C.base)
    (he : entersB C.P f = true) (hd : Nat.blt d n = true) (hv : ∀ t, (V t).ok nx) (hc : ∀ β w, Mem C.base C.w0 rows nx β w → Calls C.P f (SV.dens β args).toArray w fun e w' => Below w.heap.size w w' ∧ ∃ t, e = .returned ((V t).den β) ∧ SlAt (A t) (X t) w' ∧ Fresh (A t) w)
    (h : ∀ t, (X t ≠ [] → ∃ ad, A t = some ad) → K ⟨(d, V t) :: fr, (nx, false, .blob (SlB (A t) (X t))) :: rows, nx + 1, n⟩) : CallX C (some d) f args ⟨fr, rows, nx, n⟩ K := by
  unfold CallX
  refine ⟨he, fun β a w hs => (hc β w hs.mem).mono ?_⟩
  rintro e w' ⟨hb, t, rfl, hsl, hfr⟩
  have hm := hs.mem
  obtain ⟨b, h1, h2, h3⟩ := hsl.toB hfr h0 (Nat.le_trans hm.base_le hb.size)
  have hs' : Sat C.base C.w0 ⟨fr, rows, nx, n⟩ β a w' := ⟨hs.defers, hs.size, hs.slot, hm.belowNext hb⟩
  have hs2 := hs'.learn (o := false) h2 h3 (fun e => by cases e) (fun i r hi => by
    have := hm.lt i (hm.row i true r hi).2.2.1
    have := (hm.row i true r hi).2.2.2 rfl
    omega)
  have hs3 := hs2.put (d := d) (by simpa [Nat.blt_eq] using hd) (SV.ok_mono (Nat.le_succ _) _ (hv t))
  have e1 : (V t).den (fun i => if i = nx then b else β i) = (V t).den β := SV.den_ext (n := nx) (fun i hi => by rw [if_neg (by omega)]) _ (hv t)
  rw [e1] at hs3
  exact ⟨_, _, _, rfl, h t (fun hx => hsl.some hx), hs3⟩
theorem flat_at {α : Type} {f : α → List Value} {sz : Nat} (hf : ∀ x, (f x).length = sz) : ∀ (L : List α) (k m : Nat) (x : α), L[k]? = some x → m < sz → (L.flatMap f)[k * sz + m]? = (f x)[m]?
  | [], k, m, x, h, _ => by simp at h
  | y :: L, 0, m, x, h, hm => by
    simp only [List.getElem?_cons_zero, Option.some.injEq] at h
    subst h
    rw [List.flatMap_cons, Nat.zero_mul, Nat.zero_add, List.getElem?_append_left (by rw [hf]; exact hm)]
  | y :: L, k + 1, m, x, h, hm => by
    rw [List.flatMap_cons, List.getElem?_append_right (by rw [hf, Nat.succ_mul]; omega), hf]
    have e : (k + 1) * sz + m - sz = k * sz + m := by rw [Nat.succ_mul]; omega
    rw [e]
    exact flat_at hf L k m x (by simpa using h) hm
theorem flat_len {α : Type} {f : α → List Value} {sz : Nat} (hf : ∀ x, (f x).length = sz) (L : List α) : (L.flatMap f).length = L.length * sz := by
  induction L with
  | nil => simp
  | cons x L ih => rw [List.flatMap_cons, List.length_append, ih, hf, List.length_cons, Nat.succ_mul]; omega
end Sym
end Go.Proofs.YtfodbfbljeeojaaGreatDoor
namespace Go.Proofs.YtfodbfbljeeojaaGreatDoor
open Go.RowKit
namespace Sym
/-- the head of a builder that has been written to -/
def BldH (T : TypeId) (g n cap : Nat) (b : Nat) (o : Option Obj) : Prop := o = some (.cells #[.pointer (some ⟨b, 0, none⟩), .slice (some ⟨g, 0, none⟩) n cap] T (0, 0)) ∧ g ≠ b
/-- its bytes -/
def BldB (e : TypeId) (g n cap : Nat) (bs : List Value) (b : Nat) (o : Option Obj) : Prop := b = g ∧ n = bs.length ∧ ∃ cur fz, o = some (.cells cur e fz) ∧ fz.2 ≤ n * 1 ∧ n ≤ cap ∧ cap ≤ maxLen ∧ cur.size = cap * 1 ∧ cur.toList.take (n * 1) = bs
theorem bld_at {T e : TypeId} {g n cap : Nat} {bs : List Value} {b c base : Nat} {w : World} (h1 : BldH T g n cap b w.heap[b]?) (h2 : BldB e g n cap bs c w.heap[c]?) (hb : base ≤ b) (hc : base ≤ c) : Lib.BuilderAtF T e base b (.pointer (some ⟨b, 0, none⟩)) bs w := by
  obtain ⟨h1, hne⟩ := h1
  obtain ⟨rfl, rfl, cur, fz, k1, k2, k3, k4, k5, k6⟩ := h2
  exact ⟨hb, _, h1, ⟨by simp, .inr ⟨c, cap, cur, fz, rfl, hc, k1, k2, k3, k4, k5, k6⟩⟩, by simp [Value.ownBlock]; exact hne⟩
theorem bld_sat {C : Ctx} {fr : List (Nat × SV)} {rows : List (Nat × Bool × SRow)} {nx n : Nat} {β : Nat → Nat} {a : Act} {w w' : World} (hs : Sat C.base C.w0 ⟨fr, rows, nx, n⟩ β a w) {i j nx' : Nat} {T e : TypeId} {bs' : List Value}
    (hb : Lib.BuilderAtF T e C.base (β i) (.pointer (some ⟨β i, 0, none⟩)) bs' w') (hl : bs' ≠ []) (hbel : Below C.base w w') (hi : i < nx) (hij : i ≠ j) (hnx : nx ≤ nx') (hjn : j < nx') (hq : ∀ q, q < nx' → q = j ∨ q < nx) (hn0 : C.w0.n0 ≤ j)
    (hden : ∀ β' : Nat → Nat, (∀ q, q ≠ j → β' q = β q) → ∀ s v, get fr s = some v → v.den β' = v.den β) :
    ∃ g n' cap', ∃ β' : Nat → Nat, (∀ q, q ≠ j → β' q = β q) ∧ Sat C.base C.w0 ⟨fr, [(i, true, .blob (BldH T g n' cap')), (j, true, .blob (BldB e g n' cap' bs'))], nx', n⟩ β' a w' := by
  obtain ⟨hB, v, hbk, ⟨hlen, hor⟩, hneq⟩ := hb
  rcases hor with ⟨_, h0⟩ | ⟨g, cap, cur, fz, rfl, hg, hgc, k2, k3, k4, k5, k6⟩
  · exact absurd (List.length_eq_zero_iff.1 h0) hl
  have hgi : g ≠ β i := fun e0 => hneq (by simp [Value.ownBlock, e0])
  have hm := hs.mem
  have hgs : g < w'.heap.size := by
    rcases Nat.lt_or_ge g w'.heap.size with h0 | h0
    · exact h0
    · rw [Array.getElem?_eq_none h0] at hgc; cases hgc
  have hβ : ∀ q, q ≠ j → (fun q => if q = j then g else β q) q = β q := fun q hq => by dsimp only; rw [if_neg hq]
  refine ⟨g, bs'.length, cap, fun q => if q = j then g else β q, hβ, ⟨hs.defers, hs.size, fun s u hu => ?_, ⟨hm.below.trans hbel, Nat.le_trans hm.base_le hbel.size, fun q o r hr => ?_, fun q hqn => ?_, fun p q r o r' hp hqq hne => ?_, Nat.le_trans hm.n0 hnx, fun q hqn => ?_⟩⟩⟩
  · obtain ⟨e1, e2⟩ := hs.slot s u hu
    exact ⟨e1.trans (hden _ hβ s u hu).symm, SV.ok_mono hnx u e2⟩
  · simp only [get_cons] at hr
    by_cases e1 : i = q
    · rw [if_pos e1] at hr
      cases hr
      subst e1
      rw [if_neg hij]
      refine ⟨⟨Nat.lt_of_lt_of_le (hm.lt i hi) hbel.size, hbk, hgi⟩, trivial, Nat.lt_of_lt_of_le hi hnx, fun _ => hB⟩
    · rw [if_neg e1] at hr
      by_cases e2 : j = q
      · rw [if_pos e2] at hr
        cases hr
        subst e2
        rw [if_pos rfl]
        exact ⟨⟨hgs, rfl, rfl, cur, fz, hgc, k2, k3, k4, k5, k6⟩, trivial, hjn, fun _ => hg⟩
      · rw [if_neg e2] at hr; simp [get] at hr
  · split
    · exact hgs
    · rename_i e1
      rcases hq q hqn with e2 | e2
      · exact absurd e2 e1
      · exact Nat.lt_of_lt_of_le (hm.lt q e2) hbel.size
  · simp only [get_cons] at hp hqq
    by_cases e1 : i = p
    · subst e1
      by_cases e2 : j = q
      · subst e2
        rw [if_pos rfl, if_neg hij]; exact hgi
      · rw [if_neg (fun e => hne e.symm), if_neg e2] at hqq; simp [get] at hqq
    · rw [if_neg e1] at hp
      by_cases e2 : j = p
      · subst e2
        by_cases e3 : i = q
        · subst e3
          rw [if_neg hij, if_pos rfl]; exact fun e => hgi e.symm
        · rw [if_neg e3, if_neg (fun e => hne e.symm)] at hqq; simp [get] at hqq
      · rw [if_neg e2] at hp; simp [get] at hp
  · have : ¬ q = j := by have hqn : q < C.w0.n0 := hqn; omega
    rw [if_neg this]; exact hm.ext q hqn
theorem callX_bld {C : Ctx} {d : Nat} {f : FuncId} {args : List SV} {fr : List (Nat × SV)} {rows : List (Nat × Bool × SRow)} {nx n : Nat} {K : St → Prop} (V : SV) (i j : Nat) {T e : TypeId} {g m cap : Nat} {bs bs' : List Value}
    (he : entersB C.P f = true) (hd : Nat.blt d n = true) (hv : V.ok nx ∧ ment j V = false) (hi : get rows i = some (true, .blob (BldH T g m cap))) (hj : get rows j = some (true, .blob (BldB e g m cap bs))) (hij : i ≠ j) (hn0 : C.w0.n0 ≤ j) (hno : mentF j fr = false) (hl : bs' ≠ [])
    (hc : ∀ β w, Mem C.base C.w0 rows nx β w → Lib.BuilderAtF T e C.base (β i) (.pointer (some ⟨β i, 0, none⟩)) bs w → Calls C.P f (SV.dens β args).toArray w fun e' w' => e' = .returned (V.den β) ∧ Lib.BuilderAtF T e C.base (β i) (.pointer (some ⟨β i, 0, none⟩)) bs' w' ∧ Below C.base w w')
    (h : ∀ g' n' cap', K ⟨(d, V) :: fr, [(i, true, .blob (BldH T g' n' cap')), (j, true, .blob (BldB e g' n' cap' bs'))], nx, n⟩) : CallX C (some d) f args ⟨fr, rows, nx, n⟩ K := by
  unfold CallX
  refine ⟨he, fun β a w hs => ?_⟩
  have hm := hs.mem
  obtain ⟨qi, -, qi3, qi4⟩ := hm.row i _ _ hi
  obtain ⟨qj, -, qj3, qj4⟩ := hm.row j _ _ hj
  refine (hc β w hm (bld_at qi.2 qj.2 (qi4 rfl) (qj4 rfl))).mono ?_
  rintro e' w' ⟨rfl, hb, hbel⟩
  obtain ⟨g', n', cap', β', hβ, hs2⟩ := bld_sat hs hb hl hbel qi3 hij (Nat.le_refl nx) qj3 (fun q hq => .inr hq) hn0 (fun β' hβ s v hv => ment_den hβ v (mentF_get fr hno hv))
  have hs3 := hs2.put (d := d) (by simpa [Nat.blt_eq] using hd) hv.1
  rw [ment_den hβ V hv.2] at hs3
  exact ⟨_, _, _, rfl, h g' n' cap', hs3⟩
/-- the first writing -/
theorem callX_bld0 {C : Ctx} {d : Nat} {f : FuncId} {args : List SV} {fr : List (Nat × SV)} {rows : List (Nat × Bool × SRow)} {nx n : Nat} {K : St → Prop} (V : SV) (i : Nat) {T e : TypeId} {bs' : List Value}
    (he : entersB C.P f = true) (hd : Nat.blt d n = true) (hv : V.ok nx) (hi : get rows i = some (true, .cells T [.any (.pointer none), .any (.slice none 0 0)])) (hl : bs' ≠ [])
    (hc : ∀ β w, Mem C.base C.w0 rows nx β w → Lib.IsBuilderF T e C.base (β i) [] w → Calls C.P f (SV.dens β args).toArray w fun e' w' => e' = .returned (V.den β) ∧ Lib.BuilderAtF T e C.base (β i) (.pointer (some ⟨β i, 0, none⟩)) bs' w' ∧ Below C.base w w')
    (h : ∀ g' n' cap', K ⟨(d, V) :: fr, [(i, true, .blob (BldH T g' n' cap')), (nx, true, .blob (BldB e g' n' cap' bs'))], nx + 1, n⟩) : CallX C (some d) f args ⟨fr, rows, nx, n⟩ K := by
  unfold CallX
  refine ⟨he, fun β a w hs => ?_⟩
  have hm := hs.mem
  obtain ⟨qi, -, qi3, qi4⟩ := hm.row i _ _ hi
  have qi3 : i < nx := qi3
  have q1 : Row w (β i) T (SV.dens β [.any (.pointer none), .any (.slice none 0 0)]).toArray := qi
  refine (hc β w hm (.inl ⟨qi4 rfl, .slice none 0 0, q1, ⟨rfl, .inl ⟨rfl, rfl⟩⟩, by simp [Value.ownBlock]⟩)).mono ?_
  rintro e' w' ⟨rfl, hb, hbel⟩
  obtain ⟨g', n', cap', β', hβ, hs2⟩ := bld_sat (j := nx) hs hb hl hbel qi3 (by omega) (Nat.le_succ nx) (Nat.lt_succ_self nx) (fun q hq => by omega) hm.n0 (fun β' hβ s v hv => SV.den_ext (n := nx) (fun q hq => hβ q (by omega)) v (hs.slot s v hv).2)
  have hs3 := hs2.put (d := d) (by simpa [Nat.blt_eq] using hd) (SV.ok_mono (Nat.le_succ _) V hv)
  rw [SV.den_ext (n := nx) (fun q hq => hβ q (by omega)) V hv] at hs3
  exact ⟨_, _, _, rfl, h g' n' cap', hs3⟩
/-- a call behind which nothing is known of the blocks -/
theorem callX_drop {C : Ctx} {d : Nat} {f : FuncId} {args : List SV} {fr : List (Nat × SV)} {rows : List (Nat × Bool × SRow)} {nx n : Nat} {K : St → Prop} (V : SV)
    (he : entersB C.P f = true) (hd : Nat.blt d n = true) (hv : V.ok nx)
    (hc : ∀ β w, Mem C.base C.w0 rows nx β w → Calls C.P f (SV.dens β args).toArray w fun e' w' => e' = .returned (V.den β) ∧ Below C.base w w')
    (h : K ⟨(d, V) :: fr, [], nx, n⟩) : CallX C (some d) f args ⟨fr, rows, nx, n⟩ K := by
  unfold CallX
  refine ⟨he, fun β a w hs => ?_⟩
  have hm := hs.mem
  refine (hc β w hm).mono ?_
  rintro e' w' ⟨rfl, hbel⟩
  have hs2 : Sat C.base C.w0 ⟨fr, [], nx, n⟩ β a w' := ⟨hs.defers, hs.size, hs.slot, hm.below.trans hbel, Nat.le_trans hm.base_le hbel.size, fun i o r h => by simp [get] at h, fun i hi => Nat.lt_of_lt_of_le (hm.lt i hi) hbel.size, fun i j r o r' h => by simp [get] at h, hm.n0, hm.ext⟩
  exact ⟨_, _, β, rfl, h, hs2.put (by simpa [Nat.blt_eq] using hd) hv⟩
theorem ments_any (j : Nat) : ∀ caps : List Value, ments j (caps.map SV.any) = false
  | [] => rfl
  | v :: r => by simp only [List.map_cons, ments, ment, Bool.false_or]; exact ments_any j r
theorem dens_any (β : Nat → Nat) : ∀ caps : List Value, SV.dens β (caps.map SV.any) = caps
  | [] => rfl
  | v :: r => by simp only [List.map_cons, SV.dens, SV.den, dens_any β r]
theorem oks_any {n : Nat} : ∀ caps : List Value, (∀ v ∈ caps, v.oneCell' = true) → SV.oks n (caps.map SV.any)
  | [], _ => trivial
  | v :: r, h => ⟨h v (by simp), oks_any r (fun u hu => h u (by simp [hu]))⟩
/-- a new beginning: what is known of blocks becomes a fact of the world -/
theorem rebase {P : Program} {E : Env} {base : Nat} {w0 : Base} {fn : Func} {res : List ResultVar} {R : Ending → World → Prop} {sc sb : List Nat} {k : List It} {st : St} (hE : EnvOK P E) (hres : fn.results = res.toArray) (fr' : List (Nat × SV)) (fuel : Nat) (sc' sb' : List Nat)
    (hfr : wkF st.fr 0 fr')
    (h : ∀ β w, Mem base w0 st.rows st.next β w → wpS ⟨P, E, w.heap.size, Base.of w, fn, res, R, sc', sb'⟩ fuel k ⟨fr', [], 0, st.n⟩) : StopN ⟨P, E, base, w0, fn, res, R, sc, sb⟩ k st := by
  unfold StopN
  intro β a w hs
  refine wpS_sound (C := ⟨P, E, w.heap.size, Base.of w, fn, res, R, sc', sb'⟩) hE hres fuel k _ β a w (h β w hs.mem) ⟨hs.defers, hs.size, fun s v hv => ?_, Below.refl _ _, Nat.le_refl _, fun i o r h => by simp [get] at h, fun i (h : i < 0) => by omega, fun i j r o r' h => by simp [get] at h, Nat.le_refl _, fun i (h : i < 0) => by omega⟩
  obtain ⟨u, g1, g2, g3⟩ := wkF_sound hfr hv
  exact ⟨by rw [← eqSV_sound β u v g2]; exact (hs.slot s u g1).1, g3⟩
end Sym
end Go.Proofs.YtfodbfbljeeojaaGreatDoor
namespace Go.Proofs.YtfodbfbljeeojaaGreatDoor
open Go.RowKit
namespace Sym
theorem contQ_goto {P : Program} {fn : Func} {R : Ending → World → Prop} {l : Nat} {a : Act} {w : World} : ∀ k : List It, contQ P (bodyPost P fn R) k (.goto l) a w → False
  | [], h => h
  | .code c :: k, h => contQ_goto k h
  | .ops all l :: k, h => contQ_goto k h
  | .inBlk id :: k, h => contQ_goto k h
  | .back I :: k, h => contQ_goto k h
theorem scopeN {C : Ctx} {c : Code} {k : List It} {st : St} (hE : EnvOK C.P C.E) (hres : C.fn.results = C.res.toArray) (fuel : Nat) (h : wpS C fuel (.code c :: k) st) : CodeN C (.scope c) k st := by
  unfold CodeN
  intro β a w hs
  have h1 : c.wp C.P (contQ C.P C.Q k) a w := wpS_sound hE hres fuel _ st β a w h hs
  refine wp_scope_straight (Code.wp_mono (fun e a w hq => ?_) h1)
  cases e with
  | goto l => exact (contQ_goto k hq).elim
  | _ => exact hq
end Sym
end Go.Proofs.YtfodbfbljeeojaaGreatDoor
