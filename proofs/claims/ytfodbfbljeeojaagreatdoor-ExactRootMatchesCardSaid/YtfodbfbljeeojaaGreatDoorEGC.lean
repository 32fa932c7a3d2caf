/- A walk that reckons: slices of the function's own: made, appended to, read. A walk that reckons: more operations: quotients, bytes as strings, values by any lemma, calls that make a slice. -/
import Derived.Test.YtfodbfbljeeojaaGreatDoorEGB
import Derived.Maps.AppendAt
set_option linter.unusedSimpArgs false
set_option linter.unusedVariables false
namespace Go.Proofs.YtfodbfbljeeojaaGreatDoor
open Go.RowKit
namespace Sym
/-- a block that one slice owns -/
def OwnI (e : TypeId) (g n cap : Nat) (xs : List Value) (b : Nat) (o : Option Obj) : Prop := b = g ∧ ∃ cur, o = some (.cells cur e (0, 0)) ∧ n ≤ cap ∧ cap ≤ maxLen ∧ cur.size = cap ∧ cur.toList.take n = xs ∧ xs.length = n
theorem OwnI.owns {e : TypeId} {g n cap : Nat} {xs : List Value} {b base : Nat} {w : World} (h : OwnI e g n cap xs b w.heap[b]?) (hb : base ≤ b) : w.ownsRow base e 1 (.slice (some ⟨g, 0, none⟩) n cap) n xs := by
  obtain ⟨rfl, cur, h1, h2, h3, h4, h5, h6⟩ := h
  exact ⟨by omega, .inr ⟨b, cap, cur, rfl, hb, h1, h2, h3, by omega, by simpa using h5⟩⟩
theorem OwnI.cell {e : TypeId} {g n cap : Nat} {xs : List Value} {b : Nat} {w : World} (h : OwnI e g n cap xs b w.heap[b]?) : ∀ j u, xs[j]? = some u → w.cell? ((⟨g, 0, none⟩ : Addr).add j) = some u := by
  obtain ⟨rfl, cur, h1, h2, h3, h4, h5, h6⟩ := h
  intro j u hj
  rw [add_at]
  have hjn : j < n := by have := (List.getElem?_eq_some_iff.1 hj).1; omega
  have : cur[j]? = some u := by
    rw [← h5, List.getElem?_take, if_pos hjn] at hj
    simpa using hj
  simp [World.cell?, h1, this]
mutual
/-- the block i is named -/
def ment (i : Nat) : SV → Bool
  | .ptr j _ => Nat.beq j i
  | .agg cs => ments i cs
  | .tup cs => ments i cs
  | .fn _ cs => ments i cs
  | _ => false
def ments (i : Nat) : List SV → Bool
  | [] => false
  | v :: r => ment i v || ments i r
end
mutual
theorem ment_den {i : Nat} {β β' : Nat → Nat} (hb : ∀ j, j ≠ i → β' j = β j) : ∀ v : SV, ment i v = false → v.den β' = v.den β
  | .lit _, _ => rfl
  | .bool _, _ => rfl
  | .prop _ _, _ => rfl
  | .int _ _, _ => rfl
  | .str _, _ => rfl
  | .ptr j _, h => by simp only [SV.den]; rw [hb j (Nat.ne_of_beq_eq_false h)]
  | .agg cs, h => by simp only [SV.den]; rw [ments_den hb cs h]
  | .tup cs, h => by simp only [SV.den]; rw [ments_den hb cs h]
  | .fn _ cs, h => by simp only [SV.den]; rw [ments_den hb cs h]
  | .any _, _ => rfl
theorem ments_den {i : Nat} {β β' : Nat → Nat} (hb : ∀ j, j ≠ i → β' j = β j) : ∀ vs : List SV, ments i vs = false → SV.dens β' vs = SV.dens β vs
  | [], _ => rfl
  | v :: r, h => by
    simp only [ments, Bool.or_eq_false_iff] at h
    simp only [SV.dens]; rw [ment_den hb v h.1, ments_den hb r h.2]
end
def mentF (i : Nat) : List (Nat × SV) → Bool
  | [] => false
  | (_, v) :: r => ment i v || mentF i r
def mentR (i : Nat) : List (Nat × Bool × SRow) → Bool
  | [] => false
  | (_, _, .cells _ cs) :: r => ments i cs || mentR i r
  | (_, _, .blob _) :: r => mentR i r
theorem mentF_get {i s : Nat} {v : SV} : ∀ (fr : List (Nat × SV)), mentF i fr = false → get fr s = some v → ment i v = false
  | [], _, h => by simp [get] at h
  | (j, u) :: r, hm, h => by
    simp only [mentF, Bool.or_eq_false_iff] at hm
    rw [get_cons] at h
    by_cases e : j = s
    · rw [if_pos e] at h; cases h; exact hm.1
    · rw [if_neg e] at h; exact mentF_get r hm.2 h
theorem mentR_get {i s : Nat} {o : Bool} {t : TypeId} {cs : List SV} : ∀ (rows : List (Nat × Bool × SRow)), mentR i rows = false → get rows s = some (o, .cells t cs) → ments i cs = false
  | [], _, h => by simp [get] at h
  | (j, q, .cells t' c') :: r, hm, h => by
    simp only [mentR, Bool.or_eq_false_iff] at hm
    rw [get_cons] at h
    by_cases e : j = s
    · rw [if_pos e] at h; cases h; exact hm.1
    · rw [if_neg e] at h; exact mentR_get r hm.2 h
  | (j, q, .blob _) :: r, hm, h => by
    simp only [mentR] at hm
    rw [get_cons] at h
    by_cases e : j = s
    · rw [if_pos e] at h; cases h
    · rw [if_neg e] at h; exact mentR_get r hm h
theorem RowIs_block {β : Nat → Nat} {w w' : World} {b : Nat} {r : SRow} (hb : w'.heap[b]? = w.heap[b]?) (hs : w.heap.size ≤ w'.heap.size) (h : RowIs w β b r) : RowIs w' β b r := by
  cases r with
  | cells t cs => simp only [RowIs] at h ⊢; unfold Row at h ⊢; rw [hb]; exact h
  | blob Φ => exact ⟨Nat.lt_of_lt_of_le h.1 hs, by rw [hb]; exact h.2⟩
theorem SRow.ok_mono {n m : Nat} (h : n ≤ m) : ∀ (r : SRow), r.ok n → r.ok m
  | .cells t cs, k => SV.oks_mono h cs k
  | .blob _, _ => trivial
theorem xop_build {C : Ctx} (hE : EnvOK C.P C.E) (hres : C.fn.results = C.res.toArray) {all l : List Oper} {k : List It} {d : Nat} {ty : TypeId} {pos : String} {after : Array Edge} {gd : Option (Nat × Bool)} {fr : List (Nat × SV)} {rows : List (Nat × Bool × SRow)} {nx n len : Nat}
    {ps : List (Nat × Operand)} {t e : TypeId} (xs : List Value) (fuel : Nat) (hd : Nat.blt d n = true) (hl : xs.length = len) (hm : len ≤ maxLen)
    (hr : ∀ β a w, Sat C.base C.w0 ⟨fr, rows, nx, n⟩ β a w → (Instr.buildSlice t len (ps.toArray.map fun (i, x) => (i, a.eval x))).run C.P w = .ok (.slice (some ⟨w.heap.size, 0, none⟩) len len) (w.alloc (.cells xs.toArray e)))
    (h : ∀ g, wpS C fuel (.ops all l :: k) ⟨(d, .any (.slice (some ⟨g, 0, none⟩) len len)) :: fr, (nx, true, .blob (OwnI e g len len xs)) :: rows, nx + 1, n⟩) :
    XopN C all l k ⟨some d, .buildSlice t len ⟨ps⟩, ty, pos, after, gd⟩ ⟨fr, rows, nx, n⟩ := by
  unfold XopN
  intro β a w hs
  have hrun := hr β a w hs
  unfold Oper.wp
  have : (execOp a.eval ⟨some d, .buildSlice t len ⟨ps⟩, ty, pos, after, gd⟩).run C.P w = .ok (.value (.slice (some ⟨w.heap.size, 0, none⟩) len len)) (w.alloc (.cells xs.toArray e)) := by
    simp only [execOp, Sem.run_bind]
    rw [hrun]; simp
  rw [this]
  have hs2 := hs.alloc (r := .blob (OwnI e w.heap.size len len xs)) trivial (.cells xs.toArray e) (fun β' hb => ⟨by simp, rfl, xs.toArray, by have := Row.new w e xs.toArray; unfold Row at this; exact this, Nat.le_refl _, hm, by simp [hl], by simp [List.take_of_length_le, hl], hl⟩) rfl
  have hs3 := hs2.put (d := d) (by simpa [Nat.blt_eq] using hd) (v := .any (.slice (some ⟨w.heap.size, 0, none⟩) len len)) rfl
  exact wpS_sound hE hres fuel (.ops all l :: k) _ _ _ _ (h w.heap.size) hs3
theorem xop_append {C : Ctx} (hE : EnvOK C.P C.E) (hres : C.fn.results = C.res.toArray) {all l : List Oper} {k : List It} {d : Nat} {ty : TypeId} {pos : String} {after : Array Edge} {gd : Option (Nat × Bool)} {fr : List (Nat × SV)} {rows : List (Nat × Bool × SRow)} {nx n : Nat}
    {x y : Operand} {t e : TypeId} (i j : Nat) {g n1 cap1 g2 m c2 : Nat} {xs ys : List Value} {inf : TypeInfo} {z : Value} (fuel : Nat) (hd : Nat.blt d n = true)
    (ht : C.P.underlying t = some (.slice e)) (hi : C.P.info? e = some inf) (hz : inf.zero = some z) (hsize : inf.size = 1) (hzs : z.cells.size = 1)
    (hx : ev fr x = some (.any (.slice (some ⟨g, 0, none⟩) n1 cap1))) (hy : ev fr y = some (.any (.slice (some ⟨g2, 0, none⟩) m c2)))
    (ri : get rows i = some (true, .blob (OwnI e g n1 cap1 xs))) (rj : get rows j = some (true, .blob (OwnI e g2 m c2 ys)))
    (h63 : n1 + m ≤ maxLen) (hbytes : (n1 + m) * inf.bytes ≤ 140737488355328) (h1 : ∀ u ∈ ys, u.oneCell' = true) (hno : (mentF i fr || mentR i rows) = false) (hni : C.w0.n0 ≤ i)
    (h : ∀ g' cap', wpS C fuel (.ops all l :: k) ⟨(d, .any (.slice (some ⟨g', 0, none⟩) (n1 + m) cap')) :: fr, (i, true, .blob (OwnI e g' (n1 + m) cap' (xs ++ ys))) :: rows, nx, n⟩) :
    XopN C all l k ⟨some d, .call ⟨.builtin .append, ⟨[x, y]⟩, ⟨[t, t]⟩⟩, ty, pos, after, gd⟩ ⟨fr, rows, nx, n⟩ := by
  unfold XopN
  intro β a w hs
  have hm := hs.mem
  obtain ⟨qi, -, qi3, qi4⟩ := hm.row i _ _ ri
  obtain ⟨qj, -, qj3, -⟩ := hm.row j _ _ rj
  have qi3 : i < nx := qi3
  have hown := OwnI.owns qi.2 (qi4 rfl)
  have hg : β i = g := qi.2.1
  have hnews := OwnI.cell qj.2
  have hml : ys.length = m := by obtain ⟨-, cur, -, -, -, -, -, h6⟩ := qj.2; exact h6
  obtain ⟨v', w', hr, h2, h3, h4, h5⟩ := run_append_own_at (P := C.P) w C.base t ty e inf z 1 inf.bytes ht hi hz hsize rfl hzs Nat.one_pos _ n1 xs hown ⟨g2, 0, none⟩ m c2 ys (by omega) hnews h1 h63 hbytes hm.base_le
  have hnn : ¬ v' = .slice none 0 0 := fun e0 => by have := (h4.1 e0).1; cases this
  obtain ⟨hlen, hor⟩ := h2
  rcases hor with ⟨e0, -⟩ | ⟨g', cap', cur, rfl, hb', hc', hn', hm', hs', ht'⟩
  · exact absurd e0 hnn
  have hblk : g' = g ∨ g' = w.heap.size := by simpa [Value.ownBlock] using h5
  unfold Oper.wp
  have e1 := (ev_sound hs hx).1
  have e2 := (ev_sound hs hy).1
  have hrun : (execOp a.eval ⟨some d, .call ⟨.builtin .append, ⟨[x, y]⟩, ⟨[t, t]⟩⟩, ty, pos, after, gd⟩).run C.P w = .ok (.value (.slice (some ⟨g', 0, none⟩) (n1 + m) cap')) w' := by
    unfold execOp
    simp only [resolve, invoke, builtin, Sem.run_bind, Sem.run_pure, Result.andThen_ok, List.map_toArray, List.map_cons, List.map_nil, e1, e2, SV.den, hr]
  rw [hrun]
  have hgs : g < w.heap.size := by rw [← hg]; exact qi.1
  have hsz' : g' < w'.heap.size := by
    rcases Nat.lt_or_ge g' w'.heap.size with h0 | h0
    · exact h0
    · rw [Array.getElem?_eq_none h0] at hc'; cases hc'
  have hbg : C.base ≤ g := by rw [← hg]; exact qi4 rfl
  simp only [Bool.or_eq_false_iff] at hno
  have hβ : ∀ q, q ≠ i → (fun q => if q = i then g' else β q) q = β q := fun q hq => by dsimp only; rw [if_neg hq]
  have hapart : ∀ q o r, get rows q = some (o, r) → q ≠ i → β q ≠ g := fun q o r hq hne => by rw [← hg]; exact hm.inj i q _ o r ri hq hne
  have hother : ∀ p o r', get rows p = some (o, r') → p ≠ i → β p ≠ g' := fun p o r' hp hpi => by
    rcases hblk with e0 | e0
    · rw [e0]; exact hapart p o r' hp hpi
    · have := hm.lt p (hm.row p o r' hp).2.2.1; omega
  have hs2 : Sat C.base C.w0 ⟨fr, (i, true, .blob (OwnI e g' (n1 + m) cap' (xs ++ ys))) :: rows, nx, n⟩ (fun q => if q = i then g' else β q) a w' := by
    refine ⟨hs.defers, hs.size, fun s v hv => ?_, ⟨hm.below.os ▸ h3.os, hm.below.tape ▸ h3.tape, hm.below.output ▸ h3.output, Nat.le_trans hm.below.size h3.size, fun q hq => ?_⟩, Nat.le_trans hm.base_le h3.size, fun q o r hq => ?_, fun q hq => ?_, fun q p r o r' hq hp hpq => ?_, hm.n0, fun q hq => ?_⟩
    · obtain ⟨k1, k2⟩ := hs.slot s v hv
      exact ⟨by rw [k1, ment_den hβ v (mentF_get fr hno.1 hv)], k2⟩
    · rw [h3.block q (Nat.lt_of_lt_of_le hq hm.base_le) (by simp [Value.ownBlock]; omega)]; exact hm.below.block q hq
    · rw [get_cons] at hq
      by_cases e0 : i = q
      · rw [if_pos e0] at hq
        cases hq
        subst e0
        dsimp only
        rw [if_pos rfl]
        exact ⟨⟨hsz', rfl, cur, hc', hn', hm', by omega, by simpa using ht', by simpa using hlen⟩, trivial, qi3, fun _ => hb'⟩
      · rw [if_neg e0] at hq
        obtain ⟨k1, k2, k3, k4⟩ := hm.row q o r hq
        have hqi : q ≠ i := fun e => e0 e.symm
        dsimp only
        rw [if_neg hqi]
        have k5 := RowIs_block (h3.block _ (hm.lt q k3) (by simp [Value.ownBlock]; exact hapart q o r hq hqi)) h3.size k1
        refine ⟨?_, k2, k3, k4⟩
        cases r with
        | cells t' cs => simp only [RowIs] at k5 ⊢; rw [ments_den hβ cs (mentR_get rows hno.2 hq)]; exact k5
        | blob Φ => exact k5
    · have hq : q < nx := hq
      by_cases e0 : q = i
      · rw [if_pos e0]; exact hsz'
      · rw [if_neg e0]; exact Nat.lt_of_lt_of_le (hm.lt q hq) h3.size
    · rw [get_cons] at hq hp
      by_cases e0 : i = q
      · rw [if_neg (by omega)] at hp
        rw [if_pos e0.symm, if_neg (by omega)]
        exact hother p o r' hp (by omega)
      · rw [if_neg e0] at hq
        rw [if_neg (by omega : ¬ q = i)]
        by_cases e2 : i = p
        · rw [if_pos e2.symm]; exact fun e3 => hother q _ _ hq (by omega) e3.symm
        · rw [if_neg e2] at hp
          rw [if_neg (by omega)]
          exact hm.inj q p r o r' hq hp hpq
    · rw [if_neg (by omega)]; exact hm.ext q hq
  have hs3 := hs2.put (d := d) (by simpa [Nat.blt_eq] using hd) (v := .any (.slice (some ⟨g', 0, none⟩) (n1 + m) cap')) rfl
  exact wpS_sound hE hres fuel (.ops all l :: k) _ _ _ _ (h g' cap') hs3
theorem xop_load {C : Ctx} (hE : EnvOK C.P C.E) (hres : C.fn.results = C.res.toArray) {all l : List Oper} {k : List It} {d : Nat} {ty : TypeId} {pos : String} {after : Array Edge} {gd : Option (Nat × Bool)} {fr : List (Nat × SV)} {rows : List (Nat × Bool × SRow)} {nx n : Nat}
    {x : Operand} {t e : TypeId} (i : Nat) {g n1 cap1 j : Nat} {xs : List Value} {o : Bool} (v : SV) (fuel : Nat) (hd : Nat.blt d n = true) (hag : ∀ w, (isAgg t).run C.P w = .ok false w)
    (hx : ev fr x = some (.any (.pointer (some ((⟨g, 0, none⟩ : Addr).add j))))) (ri : get rows i = some (o, .blob (OwnI e g n1 cap1 xs))) (hv : ∀ β, xs[j]? = some (v.den β)) (hok : v.ok nx)
    (h : wpS C fuel (.ops all l :: k) ⟨(d, v) :: fr, rows, nx, n⟩) : XopN C all l k ⟨some d, .load t x, ty, pos, after, gd⟩ ⟨fr, rows, nx, n⟩ := by
  unfold XopN
  intro β a w hs
  obtain ⟨qi, -, -, -⟩ := hs.mem.row i _ _ ri
  have hc := OwnI.cell qi.2 j _ (hv β)
  have e1 := (ev_sound hs hx).1
  unfold Oper.wp
  have hrun : (execOp a.eval ⟨some d, .load t x, ty, pos, after, gd⟩).run C.P w = .ok (.value (v.den β)) w := by
    simp [execOp, Instr.loadAt, Instr.sureAddr, e1, SV.den, loadVar, hag, hc]
  rw [hrun]
  exact wpS_sound hE hres fuel (.ops all l :: k) _ β _ w h (hs.put (by simpa [Nat.blt_eq] using hd) hok)
theorem fill2 (u v : Value) (hu : u.cells = #[u]) (hv : v.cells = #[v]) (A : Array Value) (h : A.size = 2) : Instr.fill (fun i => some (i, 1)) A [(0, u), (1, v)] = some #[u, v] := by
  obtain ⟨l⟩ := A
  match l, h with
  | [c0, c1], _ => simp [Instr.fill, hu, hv]
theorem fill1 (u : Value) (hu : u.cells = #[u]) (A : Array Value) (h : A.size = 1) : Instr.fill (fun i => some (i, 1)) A [(0, u)] = some #[u] := by
  obtain ⟨l⟩ := A
  match l, h with
  | [c0], _ => simp [Instr.fill, hu]
theorem xop_ints2 {C : Ctx} (hE : EnvOK C.P C.E) (hres : C.fn.results = C.res.toArray) {all l : List Oper} {k : List It} {d : Nat} {ty : TypeId} {pos : String} {after : Array Edge} {gd : Option (Nat × Bool)} {fr : List (Nat × SV)} {rows : List (Nat × Bool × SRow)} {nx n : Nat}
    {x y : Operand} {t e : TypeId} {p q : Int} {z0 : Value} (fuel : Nat) (hd : Nat.blt d n = true) (hx : ev fr x = some (.int .i64 p)) (hy : ev fr y = some (.int .i64 q))
    (ht : C.P.underlying t = some (.slice e)) (hs : ∀ w, (sizeOf e).run C.P w = .ok 1 w) (hz : ∀ w, (zeroValue e).run C.P w = .ok z0 w) (hz1 : z0.cells = #[z0])
    (h : ∀ g, wpS C fuel (.ops all l :: k) ⟨(d, .any (.slice (some ⟨g, 0, none⟩) 2 2)) :: fr, (nx, true, .blob (OwnI e g 2 2 [.int .i64 p, .int .i64 q])) :: rows, nx + 1, n⟩) :
    XopN C all l k ⟨some d, .buildSlice t 2 ⟨[(0, x), (1, y)]⟩, ty, pos, after, gd⟩ ⟨fr, rows, nx, n⟩ :=
  xop_build hE hres [.int .i64 p, .int .i64 q] fuel hd rfl (by unfold maxLen; omega) (fun β a w hsat => by
    have e1 := (ev_sound hsat hx).1
    have e2 := (ev_sound hsat hy).1
    have q0 : (underlying t).run C.P w = .ok (.slice e) w := by simp [underlying, ht]
    simp [Instr.buildSlice, q0, hs, hz, hz1, e1, e2, SV.den, fill2 (.int .i64 p) (.int .i64 q) rfl rfl, newRow, World.alloc_eq]) h
theorem xop_ints1 {C : Ctx} (hE : EnvOK C.P C.E) (hres : C.fn.results = C.res.toArray) {all l : List Oper} {k : List It} {d : Nat} {ty : TypeId} {pos : String} {after : Array Edge} {gd : Option (Nat × Bool)} {fr : List (Nat × SV)} {rows : List (Nat × Bool × SRow)} {nx n : Nat}
    {x : Operand} {t e : TypeId} {p : Int} {z0 : Value} (fuel : Nat) (hd : Nat.blt d n = true) (hx : ev fr x = some (.int .i64 p))
    (ht : C.P.underlying t = some (.slice e)) (hs : ∀ w, (sizeOf e).run C.P w = .ok 1 w) (hz : ∀ w, (zeroValue e).run C.P w = .ok z0 w) (hz1 : z0.cells = #[z0])
    (h : ∀ g, wpS C fuel (.ops all l :: k) ⟨(d, .any (.slice (some ⟨g, 0, none⟩) 1 1)) :: fr, (nx, true, .blob (OwnI e g 1 1 [.int .i64 p])) :: rows, nx + 1, n⟩) :
    XopN C all l k ⟨some d, .buildSlice t 1 ⟨[(0, x)]⟩, ty, pos, after, gd⟩ ⟨fr, rows, nx, n⟩ :=
  xop_build hE hres [.int .i64 p] fuel hd rfl (by unfold maxLen; omega) (fun β a w hsat => by
    have e1 := (ev_sound hsat hx).1
    have q0 : (underlying t).run C.P w = .ok (.slice e) w := by simp [underlying, ht]
    simp [Instr.buildSlice, q0, hs, hz, hz1, e1, SV.den, fill1 (.int .i64 p) rfl, newRow, World.alloc_eq]) h
end Sym
end Go.Proofs.YtfodbfbljeeojaaGreatDoor
namespace Go.Proofs.YtfodbfbljeeojaaGreatDoor
open Go.RowKit
namespace Sym
theorem x_rem {C : Ctx} {G : Blobs} {x y : Operand} {t u : TypeId} {k : IntKind} {a b : Int} (ha : 0 ≤ a) (hb : 0 < b) : ExtN C G (.binOp .rem t x y u) [.int k a, .int k b] (.int k (a % b)) := by
  unfold ExtN
  intro ρ β w dst ty pos after g _ _ h
  have h' : ρ x = .int k a ∧ ρ y = .int k b := by simpa [opsX, SV.dens, SV.den] using h
  have e0 : ¬ b = 0 := by omega
  simp [execOp, eqGuard, binOp, Op.intDiv, h'.1, h'.2, e0, SV.den, Int.tmod_eq_emod_of_nonneg ha]
theorem x_quo {C : Ctx} {G : Blobs} {x y : Operand} {t u : TypeId} {k : IntKind} {a b : Int} (ha : 0 ≤ a) (hb : 0 < b) (hk : inK k a) : ExtN C G (.binOp .quo t x y u) [.int k a, .int k b] (.int k (a / b)) := by
  unfold ExtN
  intro ρ β w dst ty pos after g _ _ h
  have h' : ρ x = .int k a ∧ ρ y = .int k b := by simpa [opsX, SV.dens, SV.den] using h
  have e0 : ¬ b = 0 := by omega
  have h1 : 0 ≤ a / b := Int.ediv_nonneg ha (by omega)
  have h2 : a / b ≤ a := Int.ediv_le_self _ ha
  have hw : k.wrap (a / b) = a / b := inK_wrap (by cases k <;> simp only [inK] at hk ⊢ <;> omega)
  simp [execOp, eqGuard, binOp, Op.intDiv, h'.1, h'.2, e0, SV.den, Int.tdiv_eq_ediv_of_nonneg ha, hw]
/-- bytes of one's own, turned into a string -/
theorem x_bytesStr {C : Ctx} {G : Blobs} {x : Operand} {t u e : TypeId} {g cap n : Nat} {xs : List Value} (i : Nat) (l : List UInt8) (hs : C.P.underlying t = some (.slice e)) (he : C.P.underlying e = some (.int .u8)) (hd : C.P.underlying u = some .string)
    (ri : G i = some (OwnI e g n cap xs)) (hx : xs = bvals l) : ExtN C G (.convert t u x) [.any (.slice (some ⟨g, 0, none⟩) n cap)] (.str l) := by
  unfold ExtN
  intro ρ β w dst ty pos after gd _ hG h
  have e1 : ρ x = .slice (some ⟨g, 0, none⟩) n cap := by simpa [opsX, SV.dens, SV.den] using h
  have ho := (hG i _ ri).2
  have hc := OwnI.cell ho
  have hn : n = l.length := by obtain ⟨-, cur, -, -, -, -, -, h6⟩ := ho; rw [← h6, hx]; simp [bvals]
  subst hn
  have hr := run_convert_bytes_back (P := C.P) w t u e ⟨g, 0, none⟩ cap l hs he hd (fun j hj => hc j _ (by rw [hx]; simp [bvals, hj]))
  simp [execOp, e1, hr, SV.den, bstr]
theorem xop_val {C : Ctx} (hE : EnvOK C.P C.E) (hres : C.fn.results = C.res.toArray) {all l : List Oper} {k : List It} {d : Nat} {op : Op} {ty : TypeId} {pos : String} {after : Array Edge} {gd : Option (Nat × Bool)} {fr : List (Nat × SV)} {rows : List (Nat × Bool × SRow)} {nx n : Nat}
    (v : SV) (fuel : Nat) (hd : Nat.blt d n = true) (hok : v.ok nx) (hr : ∀ β a w, Sat C.base C.w0 ⟨fr, rows, nx, n⟩ β a w → (execOp a.eval ⟨some d, op, ty, pos, after, gd⟩).run C.P w = .ok (.value (v.den β)) w)
    (h : wpS C fuel (.ops all l :: k) ⟨(d, v) :: fr, rows, nx, n⟩) : XopN C all l k ⟨some d, op, ty, pos, after, gd⟩ ⟨fr, rows, nx, n⟩ := by
  unfold XopN
  intro β a w hs
  unfold Oper.wp
  rw [hr β a w hs]
  exact wpS_sound hE hres fuel (.ops all l :: k) _ β _ w h (hs.put (by simpa [Nat.blt_eq] using hd) hok)
theorem xop_one {C : Ctx} (hE : EnvOK C.P C.E) (hres : C.fn.results = C.res.toArray) {all l : List Oper} {k : List It} {d : Nat} {ty : TypeId} {pos : String} {after : Array Edge} {gd : Option (Nat × Bool)} {fr : List (Nat × SV)} {rows : List (Nat × Bool × SRow)} {nx n : Nat}
    {x : Operand} {t e : TypeId} {kd : IntKind} {p : Int} {z0 : Value} (fuel : Nat) (hd : Nat.blt d n = true) (hx : ev fr x = some (.int kd p))
    (ht : C.P.underlying t = some (.slice e)) (hs : ∀ w, (sizeOf e).run C.P w = .ok 1 w) (hz : ∀ w, (zeroValue e).run C.P w = .ok z0 w) (hz1 : z0.cells = #[z0])
    (h : ∀ g, wpS C fuel (.ops all l :: k) ⟨(d, .any (.slice (some ⟨g, 0, none⟩) 1 1)) :: fr, (nx, true, .blob (OwnI e g 1 1 [.int kd p])) :: rows, nx + 1, n⟩) :
    XopN C all l k ⟨some d, .buildSlice t 1 ⟨[(0, x)]⟩, ty, pos, after, gd⟩ ⟨fr, rows, nx, n⟩ :=
  xop_build hE hres [.int kd p] fuel hd rfl (by unfold maxLen; omega) (fun β a w hsat => by
    have e1 := (ev_sound hsat hx).1
    have q0 : (underlying t).run C.P w = .ok (.slice e) w := by simp [underlying, ht]
    simp [Instr.buildSlice, q0, hs, hz, hz1, e1, SV.den, fill1 (.int kd p) rfl, newRow, World.alloc_eq]) h
/-- a block that is there gets a number -/
theorem Sat.learn {base : Nat} {w0 : Base} {β : Nat → Nat} {a : Act} {w : World} {fr : List (Nat × SV)} {rows : List (Nat × Bool × SRow)} {nx n b : Nat} {o : Bool} {Φ : Nat → Option Obj → Prop} (hs : Sat base w0 ⟨fr, rows, nx, n⟩ β a w) (hb : b < w.heap.size) (hΦ : Φ b w.heap[b]?)
    (ho : o = true → base ≤ b ∧ ∀ i o' r, get rows i = some (o', r) → β i ≠ b) (hn : ∀ i r, get rows i = some (true, r) → β i ≠ b) :
    Sat base w0 ⟨fr, (nx, o, .blob Φ) :: rows, nx + 1, n⟩ (fun i => if i = nx then b else β i) a w := by
  obtain ⟨h1, h2, h3, h4⟩ := hs
  have hbe : ∀ i, i < nx → (fun i => if i = nx then b else β i) i = β i := fun i hi => by dsimp only; rw [if_neg (by omega)]
  refine ⟨h1, h2, fun s v hv => ?_, ?_⟩
  · obtain ⟨k1, k2⟩ := h3 s v hv
    exact ⟨by rw [k1, SV.den_ext hbe v k2], SV.ok_mono (Nat.le_succ _) v k2⟩
  · refine ⟨h4.below, h4.base_le, fun i ow r' hi => ?_, fun i hi => ?_, fun i j r' oj rj hi hj hji => ?_, Nat.le_trans h4.n0 (Nat.le_succ _), fun i hi => ?_⟩
    · rw [get_cons] at hi
      by_cases e : nx = i
      · rw [if_pos e] at hi
        cases hi
        subst e
        dsimp only
        rw [if_pos rfl]
        exact ⟨⟨hb, hΦ⟩, trivial, by omega, fun h => (ho h).1⟩
      · rw [if_neg e] at hi
        obtain ⟨k1, k2, k3, k4⟩ := h4.row i ow r' hi
        have k3 : i < nx := k3
        dsimp only
        rw [if_neg (by omega)]
        exact ⟨RowIs_ext hbe k2 k1, SRow.ok_mono (Nat.le_succ _) r' k2, by omega, k4⟩
    · have hi : i < nx + 1 := hi
      by_cases e : i = nx
      · rw [if_pos e]; exact hb
      · rw [if_neg e]; exact h4.lt i (show i < nx by omega)
    · rw [get_cons] at hi hj
      by_cases e : nx = i
      · rw [if_pos e] at hi
        cases hi
        rw [if_neg (by omega)] at hj
        rw [if_pos e.symm, if_neg (by omega)]
        exact (ho rfl).2 j oj rj hj
      · rw [if_neg e] at hi
        rw [if_neg (by omega : ¬ i = nx)]
        by_cases ej : nx = j
        · rw [if_pos ej.symm]; exact fun e0 => hn i r' hi e0.symm
        · rw [if_neg ej] at hj; rw [if_neg (by omega)]; exact h4.inj i j r' oj rj hi hj hji
    · have h5 : w0.n0 ≤ nx := h4.n0
      have e : ¬ i = nx := by omega
      rw [if_neg e]; exact h4.ext i hi
/-- what a slice shows, in a world -/
def SlAt (a : Option Addr) (xs : List Value) (w : World) : Prop := ∀ i v, xs[i]? = some v → ∃ ad, a = some ad ∧ ad.block < w.heap.size ∧ w.cell? (ad.add i) = some v
/-- what a slice shows, all in one block -/
def SlB (a : Option Addr) (xs : List Value) (b : Nat) (o : Option Obj) : Prop := ∀ w : World, w.heap[b]? = o → ∀ i v, xs[i]? = some v → ∃ ad, a = some ad ∧ ad.block = b ∧ w.cell? (ad.add i) = some v
def Fresh (a : Option Addr) (w : World) : Prop := ∀ ad, a = some ad → w.heap.size ≤ ad.block
theorem add_block (a : Addr) (k : Nat) : (a.add k).block = a.block := by unfold Addr.add; split <;> rfl
theorem SlAt.below {a : Option Addr} {xs : List Value} {w w' : World} (h : SlAt a xs w) (hb : Below w.heap.size w w') : SlAt a xs w' := fun i v hi => by
  obtain ⟨ad, h1, h2, h3⟩ := h i v hi
  exact ⟨ad, h1, Nat.lt_of_lt_of_le h2 hb.size, by rw [World.cell?_of_block (w := w) (by rw [add_block]; exact hb.block _ h2)]; exact h3⟩
theorem SlAt.some {a : Option Addr} {xs : List Value} {w : World} (h : SlAt a xs w) (hx : xs ≠ []) : ∃ ad, a = some ad := by
  cases xs with
  | nil => exact absurd rfl hx
  | cons x r => obtain ⟨ad, e, _⟩ := h 0 x rfl; exact ⟨ad, e⟩
theorem SlAt.toB {a : Option Addr} {xs : List Value} {w w' : World} {base : Nat} (h : SlAt a xs w') (hf : Fresh a w) (h0 : 0 < base) (hb : base ≤ w'.heap.size) : ∃ b, (w.heap.size ≤ b ∨ b < base) ∧ b < w'.heap.size ∧ SlB a xs b w'.heap[b]? := by
  cases xs with
  | nil => exact ⟨0, .inr h0, by omega, fun _ _ i v hi => by simp at hi⟩
  | cons x r =>
    obtain ⟨ad, e, h1, _⟩ := h 0 x rfl
    refine ⟨ad.block, .inl (hf ad e), h1, fun W hW i v hi => ?_⟩
    obtain ⟨ad', e', h2, h3⟩ := h i v hi
    rw [e] at e'
    cases e'
    exact ⟨ad, e, rfl, by rw [World.cell?_of_block (w := w') (by rw [add_block]; exact hW)]; exact h3⟩
theorem SlB.at {a : Option Addr} {xs : List Value} {b : Nat} {w : World} (h : SlB a xs b w.heap[b]?) (hb : b < w.heap.size) : SlAt a xs w := fun i v hi => by
  obtain ⟨ad, h1, h2, h3⟩ := h w rfl i v hi
  exact ⟨ad, h1, by omega, h3⟩
theorem xop_of {C : Ctx} (hE : EnvOK C.P C.E) (hres : C.fn.results = C.res.toArray) {all l : List Oper} {k : List It} {o : Oper} {st : St} (fuel : Nat) (h : OpX C o st (fun st' => wpS C fuel (.ops all l :: k) st')) : XopN C all l k o st := by
  unfold OpX at h
  unfold XopN
  exact fun β a w hs => h β a w hs _ _ (fun st' β' a' w' hK hs' => wpS_sound hE hres fuel (.ops all l :: k) st' β' a' w' hK hs')
theorem call_of {C : Ctx} (hE : EnvOK C.P C.E) (hres : C.fn.results = C.res.toArray) {all l : List Oper} {k : List It} {dst : Option Nat} {f : FuncId} {args : List SV} {st : St} (fuel : Nat) (h : CallX C dst f args st (fun st' => wpS C fuel (.ops all l :: k) st')) : CallN C all l k dst f args st := by
  unfold CallX at h
  unfold CallN
  refine ⟨h.1, fun β a w hs => (h.2 β a w hs).mono ?_⟩
  rintro e w' ⟨v, st', β', rfl, hK, hs'⟩
  exact wpS_sound hE hres fuel (.ops all l :: k) st' β' _ w' hK hs'
theorem opx_val {C : Ctx} {d : Nat} {op : Op} {ty : TypeId} {pos : String} {after : Array Edge} {gd : Option (Nat × Bool)} {fr : List (Nat × SV)} {rows : List (Nat × Bool × SRow)} {nx n : Nat} {K : St → Prop}
    (v : SV) (hd : Nat.blt d n = true) (hok : v.ok nx) (hr : ∀ β a w, Sat C.base C.w0 ⟨fr, rows, nx, n⟩ β a w → (execOp a.eval ⟨some d, op, ty, pos, after, gd⟩).run C.P w = .ok (.value (v.den β)) w)
    (h : K ⟨(d, v) :: fr, rows, nx, n⟩) : OpX C ⟨some d, op, ty, pos, after, gd⟩ ⟨fr, rows, nx, n⟩ K := by
  unfold OpX
  intro β a w hs next Q hn
  unfold Oper.wp
  rw [hr β a w hs]
  exact hn _ β _ w h (hs.put (by simpa [Nat.blt_eq] using hd) hok)
theorem opx_build {C : Ctx} {d : Nat} {ty : TypeId} {pos : String} {after : Array Edge} {gd : Option (Nat × Bool)} {fr : List (Nat × SV)} {rows : List (Nat × Bool × SRow)} {nx n len : Nat} {K : St → Prop}
    {ps : List (Nat × Operand)} {t e : TypeId} (xs : List Value) (hd : Nat.blt d n = true) (hl : xs.length = len) (hm : len ≤ maxLen)
    (hr : ∀ β a w, Sat C.base C.w0 ⟨fr, rows, nx, n⟩ β a w → (Instr.buildSlice t len (ps.toArray.map fun (i, x) => (i, a.eval x))).run C.P w = .ok (.slice (some ⟨w.heap.size, 0, none⟩) len len) (w.alloc (.cells xs.toArray e)))
    (h : ∀ g, K ⟨(d, .any (.slice (some ⟨g, 0, none⟩) len len)) :: fr, (nx, true, .blob (OwnI e g len len xs)) :: rows, nx + 1, n⟩) :
    OpX C ⟨some d, .buildSlice t len ⟨ps⟩, ty, pos, after, gd⟩ ⟨fr, rows, nx, n⟩ K := by
  unfold OpX
  intro β a w hs next Q hn
  have hrun := hr β a w hs
  unfold Oper.wp
  have : (execOp a.eval ⟨some d, .buildSlice t len ⟨ps⟩, ty, pos, after, gd⟩).run C.P w = .ok (.value (.slice (some ⟨w.heap.size, 0, none⟩) len len)) (w.alloc (.cells xs.toArray e)) := by
    simp only [execOp, Sem.run_bind]
    rw [hrun]; simp
  rw [this]
  have hs2 := hs.alloc (r := .blob (OwnI e w.heap.size len len xs)) trivial (.cells xs.toArray e) (fun β' hb => ⟨by simp, rfl, xs.toArray, by have := Row.new w e xs.toArray; unfold Row at this; exact this, Nat.le_refl _, hm, by simp [hl], by simp [List.take_of_length_le, hl], hl⟩) rfl
  have hs3 := hs2.put (d := d) (by simpa [Nat.blt_eq] using hd) (v := .any (.slice (some ⟨w.heap.size, 0, none⟩) len len)) rfl
  exact hn _ _ _ _ (h w.heap.size) hs3
theorem opx_one {C : Ctx} {d : Nat} {ty : TypeId} {pos : String} {after : Array Edge} {gd : Option (Nat × Bool)} {fr : List (Nat × SV)} {rows : List (Nat × Bool × SRow)} {nx n : Nat} {K : St → Prop}
    {x : Operand} {t e : TypeId} {kd : IntKind} {p : Int} {z0 : Value} (hd : Nat.blt d n = true) (hx : ev fr x = some (.int kd p))
    (ht : C.P.underlying t = some (.slice e)) (hs : ∀ w, (sizeOf e).run C.P w = .ok 1 w) (hz : ∀ w, (zeroValue e).run C.P w = .ok z0 w) (hz1 : z0.cells = #[z0])
    (h : ∀ g, K ⟨(d, .any (.slice (some ⟨g, 0, none⟩) 1 1)) :: fr, (nx, true, .blob (OwnI e g 1 1 [.int kd p])) :: rows, nx + 1, n⟩) :
    OpX C ⟨some d, .buildSlice t 1 ⟨[(0, x)]⟩, ty, pos, after, gd⟩ ⟨fr, rows, nx, n⟩ K :=
  opx_build [.int kd p] hd rfl (by unfold maxLen; omega) (fun β a w hsat => by
    have e1 := (ev_sound hsat hx).1
    have q0 : (underlying t).run C.P w = .ok (.slice e) w := by simp [underlying, ht]
    simp [Instr.buildSlice, q0, hs, hz, hz1, e1, SV.den, fill1 (.int kd p) rfl, newRow, World.alloc_eq]) h
/-- a call that answers with a slice of its own making, among others -/
theorem callSl {C : Ctx} (hE : EnvOK C.P C.E) (hres : C.fn.results = C.res.toArray) {all l : List Oper} {k : List It} {d : Nat} {f : FuncId} {args : List SV} {fr : List (Nat × SV)} {rows : List (Nat × Bool × SRow)} {nx n : Nat} {T : Type}
    (V : T → SV) (A : T → Option Addr) (X : T → List Value) (fuel : Nat) (h0 : 0 < C.base)
    (he : entersB C.P f = true) (hd : Nat.blt d n = true) (hv : ∀ t, (V t).ok nx) (hc : ∀ β w, Mem C.base C.w0 rows nx β w → Calls C.P f (SV.dens β args).toArray w fun e w' => Below w.heap.size w w' ∧ ∃ t, e = .returned ((V t).den β) ∧ SlAt (A t) (X t) w' ∧ Fresh (A t) w)
    (h : ∀ t, (X t ≠ [] → ∃ ad, A t = some ad) → wpS C fuel (.ops all l :: k) ⟨(d, V t) :: fr, (nx, false, .blob (SlB (A t) (X t))) :: rows, nx + 1, n⟩) : CallN C all l k (some d) f args ⟨fr, rows, nx, n⟩ := by
  unfold CallN
  refine ⟨he, fun β a w hs => (hc β w hs.mem).mono ?_⟩
  rintro e w' ⟨hb, t, rfl, hsl, hfr⟩
  have hm := hs.mem
  obtain ⟨b, h1, h2, h3⟩ := hsl.toB hfr h0 (Nat.le_trans hm.base_le hb.size)
  have hs' : Sat C.base C.w0 ⟨fr, rows, nx, n⟩ β a w' := ⟨hs.defers, hs.size, hs.slot, hm.belowNext hb⟩
  have hs2 := hs'.learn (o := false) h2 h3 (fun e => by cases e) (fun i r hi => by
    have := hm.lt i (hm.row i true r hi).2.2.1
    have := (hm.row i true r hi).2.2.2 rfl
    omega)
  have hs3 := hs2.put (d := d) (by simpa [Nat.blt_eq] using hd) (SV.ok_mono (Nat.le_succ _) _ (hv t))
  have e1 : (V t).den (fun i => if i = nx then b else β i) = (V t).den β := SV.den_ext (n := nx) (fun i hi => by rw [if_neg (by omega)]) _ (hv t)
  rw [e1] at hs3
  exact wpS_sound hE hres fuel (.ops all l :: k) _ _ _ w' (h t (fun hx => hsl.some hx)) hs3
/-- a cell of a slice, read -/
theorem x_loadB {C : Ctx} {G : Blobs} {x : Operand} {t : TypeId} {a : Addr} {j : Nat} {xs : List Value} (i : Nat) (v : SV) (hag : ∀ w, (isAgg t).run C.P w = .ok false w) (ri : G i = some (SlB (some a) xs)) (hv : ∀ β, xs[j]? = some (v.den β)) :
    ExtN C G (.load t x) [.any (.pointer (some (a.add j)))] v := by
  unfold ExtN
  intro ρ β w dst ty pos after gd _ hG h
  have e1 : ρ x = .pointer (some (a.add j)) := by simpa [opsX, SV.dens, SV.den] using h
  obtain ⟨h1, h2⟩ := hG i _ ri
  obtain ⟨ad, e, _, hc⟩ := h2 w rfl j _ (hv β)
  cases e
  simp [execOp, Instr.loadAt, Instr.sureAddr, e1, loadVar, hag, hc]
/-- several cells of a slice, read as one value -/
theorem x_loadBs {C : Ctx} {G : Blobs} {x : Operand} {t : TypeId} {a : Addr} {j : Nat} {xs : List Value} (i : Nat) (vs : List SV) (hag : ∀ w, (isAgg t).run C.P w = .ok true w) (hs : ∀ w, (sizeOf t).run C.P w = .ok vs.length w) (ri : G i = some (SlB (some a) xs))
    (hv : ∀ β m v, (SV.dens β vs)[m]? = some v → xs[j + m]? = some v) : ExtN C G (.load t x) [.any (.pointer (some (a.add j)))] (.agg vs) := by
  unfold ExtN
  intro ρ β w dst ty pos after gd _ hG h
  have e1 : ρ x = .pointer (some (a.add j)) := by simpa [opsX, SV.dens, SV.den] using h
  obtain ⟨h1, h2⟩ := hG i _ ri
  have := run_loadCells_list (P := C.P) w (a.add j) (SV.dens β vs) (fun m v hm => by
    obtain ⟨ad, e, _, hc⟩ := h2 w rfl (j + m) v (hv β m v hm)
    cases e
    rw [Go.Deep.add_add]; exact hc)
  rw [SV.dens_len] at this
  simp [execOp, Instr.loadAt, Instr.sureAddr, e1, loadVar, hag, hs, this, SV.den]
end Sym
end Go.Proofs.YtfodbfbljeeojaaGreatDoor
