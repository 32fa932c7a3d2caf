/- A walk that reckons: an array of numbers, sliced. A walk that reckons: slices of one's own that may still be none; pointers looked at; structs of arrays. The table of types. (by a tool) The walk's steps behind lemmas whose last argument is shown by default. Values, plainly: characters, texts, errors of values. -/
import Derived.Test.YtnbahdnjcdimgaaDoorMGD
import Derived.Test.YtnbahdnjcdimgaaDoorMGA
import Derived.Shelf.Unicode.DecodeSlow
import Derived.Lib.DecodeN
set_option linter.unusedSimpArgs false
set_option linter.unusedVariables false
namespace Go.Proofs.YtnbahdnjcdimgaaDoor
open Go.RowKit
namespace Sym
/-- a row is known otherwise -/
theorem Sat.rerow {base : Nat} {w0 : Base} {β : Nat → Nat} {a : Act} {w : World} {fr : List (Nat × SV)} {rows : List (Nat × Bool × SRow)} {nx n i : Nat} {o : Bool} {r r' : SRow} (hs : Sat base w0 ⟨fr, rows, nx, n⟩ β a w) (hi : get rows i = some (o, r)) (hr : RowIs w β (β i) r') (ho : r'.ok nx) :
    Sat base w0 ⟨fr, (i, o, r') :: rows, nx, n⟩ β a w := by
  obtain ⟨h1, h2, h3, h4⟩ := hs
  have old : ∀ j ow rw, get ((i, o, r') :: rows) j = some (ow, rw) → ∃ r0, get rows j = some (ow, r0) := fun j ow rw hj => by
    rw [get_cons] at hj
    by_cases e : i = j
    · rw [if_pos e] at hj
      cases hj
      subst e
      exact ⟨_, hi⟩
    · rw [if_neg e] at hj
      exact ⟨_, hj⟩
  refine ⟨h1, h2, h3, ⟨h4.below, h4.base_le, fun j ow rw hj => ?_, h4.lt, fun j l r1 ol r2 hj hl hlj => ?_, h4.n0, h4.ext, h4.pr.same fun j rw' hj => by obtain ⟨r0, h0⟩ := old _ _ _ hj; exact ⟨j, r0, h0, rfl⟩⟩⟩
  · rw [get_cons] at hj
    by_cases e : i = j
    · rw [if_pos e] at hj
      cases hj
      subst e
      have := h4.row i o r hi
      exact ⟨hr, ho, this.2.2.1, this.2.2.2⟩
    · rw [if_neg e] at hj
      exact h4.row j ow rw hj
  · obtain ⟨p, hp⟩ := old _ _ _ hj
    obtain ⟨q, hq⟩ := old _ _ _ hl
    exact h4.inj j l p ol q hp hq hlj
def enumL {α : Type} : Nat → List α → List (Nat × α)
  | _, [] => []
  | p, v :: r => (p, v) :: enumL (p + 1) r
theorem fill_all : ∀ (vs pre post : List Value), (∀ v ∈ vs, v.cells = #[v]) → post.length = vs.length → Instr.fill (fun i => some (i, 1)) (pre ++ post).toArray (enumL pre.length vs) = some (pre ++ vs).toArray
  | [], pre, post, _, hl => by
    have : post = [] := List.eq_nil_of_length_eq_zero hl
    subst this; rfl
  | v :: vs, pre, post, h, hl => by
    cases post with
    | nil => cases hl
    | cons q post =>
      have hv := h v (by simp)
      have ih := fill_all vs (pre ++ [v]) post (fun u hu => h u (by simp [hu])) (by simpa using hl)
      have hlen : (pre ++ [v]).length = pre.length + 1 := by simp
      rw [hlen] at ih
      have hA : ((pre ++ q :: post).toArray).setIfInBounds (pre.length + 0) v = (pre ++ [v] ++ post).toArray := by
        apply Array.toList_inj.1
        simp
      show (match (some (pre.length, 1) : Option (Nat × Nat)) with
        | none => none
        | some (off, size) => if v.cells.size ≠ size || off + v.cells.size > (pre ++ q :: post).toArray.size then none else Instr.fill (fun i => some (i, 1)) (v.cells.zipIdx.foldl (fun cs (c, j) => cs.setIfInBounds (off + j) c) (pre ++ q :: post).toArray) (enumL (pre.length + 1) vs)) = _
      rw [hv]
      have hc : ¬ ((#[v].size ≠ 1 || decide (pre.length + #[v].size > (pre ++ q :: post).toArray.size)) = true) := by simp
      have hz : (#[v].zipIdx.foldl (fun cs (x : Value × Nat) => cs.setIfInBounds (pre.length + x.2) x.1) (pre ++ q :: post).toArray) = (pre ++ [v] ++ post).toArray := hA
      dsimp only
      rw [if_neg hc]
      have hz' : (#[v].zipIdx.foldl (fun cs x => match x with | (c, j) => cs.setIfInBounds (pre.length + j) c) (pre ++ q :: post).toArray) = (pre ++ [v] ++ post).toArray := hz
      rw [hz', ih]
      simp
theorem enumL_map {α β : Type} (f : α → β) : ∀ (p : Nat) (l : List α), (enumL p l).map (fun (x : Nat × α) => (x.1, f x.2)) = enumL p (l.map f)
  | _, [] => rfl
  | p, v :: r => by simp only [enumL, List.map_cons, enumL_map f (p + 1) r]
/-- an array of single cells, written out -/
theorem x_buildArr {C : Ctx} {G : Blobs} {ps : List (Nat × Operand)} {vs : List SV} {t e : TypeId} {len : Nat} {z : Value} (hp : ps = enumL 0 (ps.map (·.2))) (ht : C.P.underlying t = some (.array len e)) (hs : ∀ w, (sizeOf e).run C.P w = .ok 1 w) (hz : ∀ w, (zeroValue t).run C.P w = .ok z w) (hc : z.cells.size = vs.length) (h1 : ∀ β, ∀ u ∈ SV.dens β vs, u.cells = #[u]) :
    ExtN C G (.build t ⟨ps⟩) vs (.agg vs) := by
  unfold ExtN
  intro ρ β w dst ty pos after g _ _ h
  have h : (ps.map (·.2)).map ρ = SV.dens β vs := by
    have h : ps.map (fun x => ρ x.2) = SV.dens β vs ∨ (ps.map (·.2)).map ρ = SV.dens β vs := .inr h
    exact h.elim (fun h => by rw [List.map_map]; exact h) id
  have q : (underlying t).run C.P w = .ok (.array len e) w := by simp [underlying, ht]
  have e1 : (((⟨ps⟩ : Array (Nat × Operand)).map fun (i, x) => (i, ρ x)).toList) = enumL 0 (SV.dens β vs) := by
    rw [← h, ← enumL_map, ← hp]
    simp
  have f1 : Instr.fill (fun i => some (i * 1, 1)) z.cells (enumL 0 (SV.dens β vs)) = some (SV.dens β vs).toArray := by
    have := fill_all (SV.dens β vs) [] z.cells.toList (h1 β) (by rw [SV.dens_len]; simpa using hc)
    simpa using this
  have hb : (Instr.build t ((⟨ps⟩ : Array (Nat × Operand)).map fun (i, x) => (i, ρ x))).run C.P w = .ok (.agg (SV.dens β vs).toArray) w := by
    unfold Instr.build
    rw [Sem.run_bind, hz]
    simp only [Result.andThen_ok, Sem.run_bind, q, hs, e1, f1]
    rfl
  simp only [execOp, Sem.run_bind, hb]
  simp [SV.den]
end Sym
end Go.Proofs.YtnbahdnjcdimgaaDoor
namespace Go.Proofs.YtnbahdnjcdimgaaDoor
open Go.RowKit
namespace Sym
theorem x_nilP {C : Ctx} {G : Blobs} {x : Operand} {i off : Nat} : ExtN C G (.nilCheck x) [.ptr i off] (.ptr i off) := by
  unfold ExtN
  intro ρ β w dst ty pos after g _ _ h
  have h' : ρ x = .pointer (some ⟨β i, off, none⟩) := by simpa [opsX, SV.dens, SV.den] using h
  simp [execOp, h', SV.den]
theorem x_nilA {C : Ctx} {G : Blobs} {x : Operand} {a : Addr} : ExtN C G (.nilCheck x) [.any (.pointer (some a))] (.any (.pointer (some a))) := by
  unfold ExtN
  intro ρ β w dst ty pos after g _ _ h
  have h' : ρ x = .pointer (some a) := by simpa [opsX, SV.dens, SV.den] using h
  simp [execOp, h', SV.den]
/-- a slice of one's own, or none -/
def OwnZ (ob : Bool) (e : TypeId) (sz : Nat) (a : Option Addr) (n cap : Nat) (xs : List Value) (b : Nat) (o : Option Obj) : Prop := match ob with
  | true => ∃ g, a = some ⟨g, 0, none⟩ ∧ OwnS e sz g n cap xs b o
  | false => a = none ∧ n = 0 ∧ cap = 0 ∧ xs = []
/-- a block of one's own under another number -/
theorem Sat.mv {base : Nat} {w0 : Base} {β : Nat → Nat} {a : Act} {w : World} {fr : List (Nat × SV)} {rows : List (Nat × Bool × SRow)} {nx n : Nat} (i j : Nat) {Φ : Nat → Option Obj → Prop} (hs : Sat base w0 ⟨fr, (j, true, .blob Φ) :: rows, nx, n⟩ β a w) (hi : i < nx) (hij : i ≠ j) (hj : get rows j = none) (hn0 : w0.n0 ≤ i)
    (hno : (mentF i fr || mentR i rows) = false) : Sat base w0 ⟨fr, (i, true, .blob Φ) :: rows, nx, n⟩ (fun q => if q = i then β j else β q) a w := by
  obtain ⟨h1, h2, h3, h4⟩ := hs
  simp only [Bool.or_eq_false_iff] at hno
  have hβ : ∀ q, q ≠ i → (fun q => if q = i then β j else β q) q = β q := fun q hq => by dsimp only; rw [if_neg hq]
  have hjj : get ((j, true, SRow.blob Φ) :: rows) j = some (true, .blob Φ) := by rw [get_cons, if_pos rfl]
  have hold : ∀ q x, get rows q = some x → q ≠ j ∧ get ((j, true, SRow.blob Φ) :: rows) q = some x := fun q x hq => by
    have : ¬ j = q := fun e => by subst e; rw [hj] at hq; cases hq
    exact ⟨fun e => this e.symm, by rw [get_cons, if_neg this]; exact hq⟩
  obtain ⟨k1, -, k3, k4⟩ := h4.row j _ _ hjj
  refine ⟨h1, h2, fun s v hv => ?_, ?_⟩
  · obtain ⟨e1, e2⟩ := h3 s v hv
    exact ⟨by rw [e1, ment_den hβ v (mentF_get fr hno.1 hv)], e2⟩
  refine ⟨h4.below, h4.base_le, fun q o r hq => ?_, fun q hq => ?_, fun q p r o r' hq hp hpq => ?_, h4.n0, fun q hq => ?_, h4.pr.ren (fun p r hp hne => ?_) (fun r _ => ⟨j, _, hjj, rfl⟩)⟩
  · rw [get_cons] at hq
    by_cases e : i = q
    · rw [if_pos e] at hq
      cases hq
      subst e
      try dsimp only
      rw [if_pos rfl]
      exact ⟨k1, trivial, hi, k4⟩
    · rw [if_neg e] at hq
      obtain ⟨m1, m2, m3, m4⟩ := h4.row q o r (hold q _ hq).2
      try dsimp only
      rw [if_neg (fun e' => e e'.symm)]
      refine ⟨?_, m2, m3, m4⟩
      cases r with
      | cells t cs => simp only [RowIs] at m1 ⊢; rw [ments_den hβ cs (mentR_get rows hno.2 hq)]; exact m1
      | blob Φ => exact m1
  · have hq : q < nx := hq
    try dsimp only
    split
    · exact h4.lt j k3
    · exact h4.lt q hq
  · rw [get_cons] at hq hp
    by_cases e : i = q
    · rw [if_neg (fun e' => hpq (e'.symm.trans e))] at hp
      try dsimp only
      rw [if_pos e.symm, if_neg (fun e' => hpq (e'.trans e))]
      exact h4.inj j p _ o r' hjj (hold p _ hp).2 (hold p _ hp).1
    · rw [if_neg e] at hq
      have e' : ¬ q = i := fun e' => e e'.symm
      try dsimp only
      rw [if_neg e']
      by_cases e2 : i = p
      · rw [if_pos e2.symm]
        exact h4.inj q j r _ _ (hold q _ hq).2 hjj (fun e3 => (hold q _ hq).1 e3.symm)
      · rw [if_neg e2] at hp
        have e4 : ¬ p = i := fun e' => e2 e'.symm
        rw [if_neg e4]
        exact h4.inj q p r o r' (hold q _ hq).2 (hold p _ hp).2 hpq
  · have hq : q < w0.n0 := hq
    try dsimp only
    rw [if_neg (by omega)]; exact h4.ext q hq
  · rw [get_cons, if_neg (fun e => hne e.symm)] at hp
    exact ⟨r, (hold p _ hp).2⟩
theorem OpX.mono {C : Ctx} {o : Oper} {st : St} {K K' : St → Prop} (h : OpX C o st K') (hk : ∀ st' β a w, K' st' → Sat C.base C.w0 st' β a w → ∃ st'' β'', K st'' ∧ Sat C.base C.w0 st'' β'' a w) : OpX C o st K := by
  unfold OpX at h ⊢
  intro β a w hs next Q hn
  refine h β a w hs next Q fun st' β' a' w' h1 h2 => ?_
  obtain ⟨st'', β'', h3, h4⟩ := hk st' β' a' w' h1 h2
  exact hn st'' β'' a' w' h3 h4
/-- an element is put behind a slice of one's own, or behind none -/
theorem opx_appendZ {C : Ctx} {d : Nat} {ty : TypeId} {pos : String} {after : Array Edge} {gd : Option (Nat × Bool)} {fr : List (Nat × SV)} {rows : List (Nat × Bool × SRow)} {nx n : Nat} {K : St → Prop}
    {x y : Operand} {t e : TypeId} {sz : Nat} (i j : Nat) {ob : Bool} {a : Option Addr} {n1 cap1 g2 m c2 : Nat} {xs ys : List Value} {inf : TypeInfo} {z : Value} (hd : Nat.blt d n = true)
    (ht : C.P.underlying t = some (.slice e)) (hi : C.P.info? e = some inf) (hz : inf.zero = some z) (hsize : inf.size = sz) (hzs : z.cells.size = sz) (h0 : 0 < sz)
    (hx : ev fr x = some (.any (.slice a n1 cap1))) (hy : ev fr y = some (.any (.slice (some ⟨g2, 0, none⟩) m c2)))
    (ri : get rows i = some (ob, .blob (OwnZ ob e sz a n1 cap1 xs))) (rj : get rows j = some (true, .blob (OwnS e sz g2 m c2 ys)))
    (h63 : n1 + m ≤ maxLen) (hbytes : (n1 + m) * inf.bytes ≤ 140737488355328) (h1 : ∀ u ∈ ys, u.oneCell' = true) (hm0 : 0 < m) (hno : (mentF i fr || mentR i rows) = false) (hni : C.w0.n0 ≤ i) (hnx : noneB rows nx = true) (hin : Nat.blt i nx = true) (hij : Nat.beq i j = false) (hb0 : 0 < C.base)
    (h : ∀ g' cap', K ⟨(d, .any (.slice (some ⟨g', 0, none⟩) (n1 + m) cap')) :: fr, (i, true, .blob (OwnZ true e sz (some ⟨g', 0, none⟩) (n1 + m) cap' (xs ++ ys))) :: rows, nx + 1, n⟩) :
    OpX C ⟨some d, .call ⟨.builtin .append, ⟨[x, y]⟩, ⟨[t, t]⟩⟩, ty, pos, after, gd⟩ ⟨fr, rows, nx, n⟩ K := by
  cases ob with
  | true =>
    unfold OpX
    intro β act w hs next Q hn
    obtain ⟨k1, -, -, -⟩ := hs.mem.row i _ _ ri
    obtain ⟨g, rfl, ho⟩ := k1.2
    have hs2 := hs.rerow ri (r' := .blob (OwnS e sz g n1 cap1 xs)) ⟨k1.1, ho⟩ trivial
    have ri2 : get ((i, true, SRow.blob (OwnS e sz g n1 cap1 xs)) :: rows) i = some (true, .blob (OwnS e sz g n1 cap1 xs)) := by rw [get_cons, if_pos rfl]
    have key : OpX C ⟨some d, .call ⟨.builtin .append, ⟨[x, y]⟩, ⟨[t, t]⟩⟩, ty, pos, after, gd⟩ ⟨fr, (i, true, .blob (OwnS e sz g n1 cap1 xs)) :: rows, nx, n⟩ K := by
      have rj2 : get ((i, true, SRow.blob (OwnS e sz g n1 cap1 xs)) :: rows) j = some (true, .blob (OwnS e sz g2 m c2 ys)) := by rw [get_cons, if_neg (Nat.ne_of_beq_eq_false hij)]; exact rj
      refine (opx_append i j hd ht hi hz hsize hzs h0 hx hy ri2 rj2 h63 hbytes h1 (by simpa [mentR, ments] using hno) hni (K := fun st => ∃ g' cap', st = ⟨(d, .any (.slice (some ⟨g', 0, none⟩) (n1 + m) cap')) :: fr, (i, true, .blob (OwnS e sz g' (n1 + m) cap' (xs ++ ys))) :: (i, true, .blob (OwnS e sz g n1 cap1 xs)) :: rows, nx, n⟩) (fun g' cap' => ⟨g', cap', rfl⟩)).mono fun st' β' a' w' h1' h2' => ?_
      obtain ⟨g', cap', rfl⟩ := h1'
      have ri3 : get ((i, true, SRow.blob (OwnS e sz g' (n1 + m) cap' (xs ++ ys))) :: (i, true, SRow.blob (OwnS e sz g n1 cap1 xs)) :: rows) i = some (true, .blob (OwnS e sz g' (n1 + m) cap' (xs ++ ys))) := by rw [get_cons, if_pos rfl]
      obtain ⟨p1, -, -, -⟩ := h2'.mem.row i _ _ ri3
      have h3' := h2'.rerow ri3 (r' := .blob (OwnZ true e sz (some ⟨g', 0, none⟩) (n1 + m) cap' (xs ++ ys))) ⟨p1.1, _, rfl, p1.2⟩ trivial
      have h4' := h3'.someRows (ro := (i, true, .blob (OwnZ true e sz (some ⟨g', 0, none⟩) (n1 + m) cap' (xs ++ ys))) :: rows) fun q v hq => by
        rw [get_cons] at hq ⊢
        by_cases e0 : i = q
        · rw [if_pos e0] at hq ⊢; exact hq
        · rw [if_neg e0] at hq ⊢; rw [get_cons, if_neg e0, get_cons, if_neg e0]; exact hq
      exact ⟨_, _, h g' cap', h4'.reserve 1 hb0⟩
    unfold OpX at key
    exact key β act w hs2 next Q hn
  | false =>
    unfold OpX
    intro β act w hs next Q hn
    obtain ⟨k1, -, k3, -⟩ := hs.mem.row i _ _ ri
    obtain ⟨rfl, rfl, rfl, rfl⟩ := k1.2
    have key : OpX C ⟨some d, .call ⟨.builtin .append, ⟨[x, y]⟩, ⟨[t, t]⟩⟩, ty, pos, after, gd⟩ ⟨fr, rows, nx, n⟩ K := by
      refine (opx_append0 j hd ht hi hz hsize hzs h0 hx hy rj (by omega) (by simpa using hbytes) h1 hm0 (K := fun st => ∃ g' cap', st = ⟨(d, .any (.slice (some ⟨g', 0, none⟩) m cap')) :: fr, (nx, true, .blob (OwnS e sz g' m cap' ys)) :: rows, nx + 1, n⟩) (fun g' cap' => ⟨g', cap', rfl⟩)).mono fun st' β' a' w' h1' h2' => ?_
      obtain ⟨g', cap', rfl⟩ := h1'
      have ri3 : get ((nx, true, SRow.blob (OwnS e sz g' m cap' ys)) :: rows) nx = some (true, .blob (OwnS e sz g' m cap' ys)) := by rw [get_cons, if_pos rfl]
      obtain ⟨p1, -, -, -⟩ := h2'.mem.row nx _ _ ri3
      have h3' := h2'.rerow ri3 (r' := .blob (OwnZ true e sz (some ⟨g', 0, none⟩) (0 + m) cap' ([] ++ ys))) ⟨p1.1, _, rfl, by rw [Nat.zero_add, List.nil_append]; exact p1.2⟩ trivial
      have h4' := h3'.someRows (ro := (nx, true, .blob (OwnZ true e sz (some ⟨g', 0, none⟩) (0 + m) cap' ([] ++ ys))) :: rows) fun q v hq => by
          rw [get_cons] at hq ⊢
          by_cases e0 : nx = q
          · rw [if_pos e0] at hq ⊢; exact hq
          · rw [if_neg e0] at hq ⊢; rw [get_cons, if_neg e0]; exact hq
      have hin' : i < nx := by simpa [Nat.blt_eq] using hin
      have h5' := h4'.mv i nx (by omega) (by omega) (noneB_get rows nx hnx) hni (by simpa [mentF, ment] using hno)
      have h6 := h g' cap'
      rw [show SV.any (.slice (some ⟨g', 0, none⟩) m cap') = .any (.slice (some ⟨g', 0, none⟩) (0 + m) cap') by rw [Nat.zero_add]] at h5'
      exact ⟨_, _, h6, h5'⟩
    unfold OpX at key
    exact key β act w hs next Q hn
/-- room for a slice that is still none -/
theorem loop_z {C : Ctx} {c : Code} {k : List It} {fr : List (Nat × SV)} {rows : List (Nat × Bool × SRow)} {nx n : Nat} (e : TypeId) (sz : Nat) (h0 : 0 < C.base) (h : LoopN C c k ⟨fr, (nx, false, .blob (OwnZ false e sz none 0 0 [])) :: rows, nx + 1, n⟩) : LoopN C c k ⟨fr, rows, nx, n⟩ := by
  unfold LoopN at h ⊢
  intro β a w hs
  have hm := hs.mem
  have := hm.base_le
  exact h _ _ _ (hs.learn (o := false) (b := 0) (Φ := OwnZ false e sz none 0 0 []) (by omega) ⟨rfl, rfl, rfl, rfl⟩ (fun e => by cases e) (fun i r hi => by
    have := (hm.row i true r hi).2.2.2 rfl
    omega))
theorem stop_z {C : Ctx} {k : List It} {fr : List (Nat × SV)} {rows : List (Nat × Bool × SRow)} {nx n : Nat} (e : TypeId) (sz : Nat) (h0 : 0 < C.base) (h : StopN C k ⟨fr, (nx, false, .blob (OwnZ false e sz none 0 0 [])) :: rows, nx + 1, n⟩) : StopN C k ⟨fr, rows, nx, n⟩ := by
  unfold StopN at h ⊢
  intro β a w hs
  have hm := hs.mem
  have := hm.base_le
  exact h _ _ _ (hs.learn (o := false) (b := 0) (Φ := OwnZ false e sz none 0 0 []) (by omega) ⟨rfl, rfl, rfl, rfl⟩ (fun e => by cases e) (fun i r hi => by
    have := (hm.row i true r hi).2.2.2 rfl
    omega))
end Sym
end Go.Proofs.YtnbahdnjcdimgaaDoor
namespace Go.Proofs.YtnbahdnjcdimgaaDoor
open Go.RowKit
namespace Sym
def env : Env := [(1, ⟨.other, 1, false, [.any (Go.Value.nilFunc)]⟩),
  (2, ⟨.int .i64, 1, false, [.int .i64 0]⟩),
  (3, ⟨.int .i64, 1, false, [.int .i64 0]⟩),
  (4, ⟨.bool, 1, false, [.lit false]⟩),
  (5, ⟨.int .u8, 1, false, [.int .u8 0]⟩),
  (6, ⟨.int .u8, 1, false, [.int .u8 0]⟩),
  (7, ⟨.struct [(0, 2), (1, 3), (2, 4), (3, 6)], 4, true, [.int .i64 0, .int .i64 0, .lit false, .int .u8 0]⟩),
  (8, ⟨.struct [(0, 2), (1, 3), (2, 4), (3, 6)], 4, true, [.int .i64 0, .int .i64 0, .lit false, .int .u8 0]⟩),
  (9, ⟨.str, 1, false, [.str []]⟩),
  (10, ⟨.str, 1, false, [.str []]⟩),
  (11, ⟨.str, 1, false, [.str []]⟩),
  (12, ⟨.int .u64, 1, false, [.int .u64 0]⟩),
  (13, ⟨.struct [(0, 9), (1, 12)], 2, true, [.str [], .int .u64 0]⟩),
  (14, ⟨.struct [(0, 9), (1, 12)], 2, true, [.str [], .int .u64 0]⟩),
  (15, ⟨.other, 1, false, [.any (Go.Value.pointer none)]⟩),
  (16, ⟨.other, 1, false, [.any (Go.Value.pointer none)]⟩),
  (17, ⟨.other, 1, false, [.any (Go.Value.pointer none)]⟩),
  (18, ⟨.struct [(0, 17)], 1, true, [.any (Go.Value.pointer none)]⟩),
  (19, ⟨.struct [(0, 17)], 1, true, [.any (Go.Value.pointer none)]⟩),
  (20, ⟨.other, 1, false, [.any (Go.Value.nilIface)]⟩),
  (21, ⟨.int .i32, 1, false, [.int .i32 0]⟩),
  (22, ⟨.slice 30, 1, false, [.any (Go.Value.slice none 0 0)]⟩),
  (23, ⟨.slice 38, 1, false, [.any (Go.Value.slice none 0 0)]⟩),
  (24, ⟨.int .i64, 1, false, [.int .i64 0]⟩),
  (26, ⟨.other, 1, false, [.any (Go.Value.nilFunc)]⟩),
  (27, ⟨.other, 1, false, [.any (Go.Value.nilFunc)]⟩),
  (28, ⟨.slice 32, 1, false, [.any (Go.Value.slice none 0 0)]⟩),
  (29, ⟨.struct [(0, 3), (1, 3), (2, 28)], 3, true, [.int .i64 0, .int .i64 0, .any (Go.Value.slice none 0 0)]⟩),
  (30, ⟨.struct [(0, 3), (1, 3), (2, 28)], 3, true, [.int .i64 0, .int .i64 0, .any (Go.Value.slice none 0 0)]⟩),
  (31, ⟨.struct [(0, 9), (1, 9)], 2, true, [.str [], .str []]⟩),
  (32, ⟨.struct [(0, 9), (1, 9)], 2, true, [.str [], .str []]⟩),
  (34, ⟨.other, 1, false, [.any (Go.Value.nilFunc)]⟩),
  (35, ⟨.other, 1, false, [.any (Go.Value.nilFunc)]⟩),
  (36, ⟨.other, 1, false, [.any (Go.Value.nilFunc)]⟩),
  (37, ⟨.struct [(0, 3), (1, 3), (2, 3), (3, 3), (4, 9)], 5, true, [.int .i64 0, .int .i64 0, .int .i64 0, .int .i64 0, .str []]⟩),
  (38, ⟨.struct [(0, 3), (1, 3), (2, 3), (3, 3), (4, 9)], 5, true, [.int .i64 0, .int .i64 0, .int .i64 0, .int .i64 0, .str []]⟩),
  (39, ⟨.other, 1, false, [.any (Go.Value.nilFunc)]⟩),
  (40, ⟨.other, 1, false, [.any (Go.Value.pointer none)]⟩),
  (41, ⟨.other, 4, true, [.lit false, .lit false, .lit false, .lit false]⟩),
  (42, ⟨.struct [(0, 22), (1, 23), (2, 41), (6, 9)], 7, true, [.any (Go.Value.slice none 0 0), .any (Go.Value.slice none 0 0), .lit false, .lit false, .lit false, .lit false, .str []]⟩),
  (43, ⟨.struct [(0, 22), (1, 23), (2, 41), (6, 9)], 7, true, [.any (Go.Value.slice none 0 0), .any (Go.Value.slice none 0 0), .lit false, .lit false, .lit false, .lit false, .str []]⟩),
  (44, ⟨.slice 9, 1, false, [.any (Go.Value.slice none 0 0)]⟩),
  (45, ⟨.other, 1, false, [.any (Go.Value.nilFunc)]⟩),
  (46, ⟨.other, 1, false, [.any (Go.Value.nilFunc)]⟩),
  (48, ⟨.other, 1, false, [.any (Go.Value.nilFunc)]⟩),
  (49, ⟨.other, 1, false, [.any (Go.Value.nilFunc)]⟩),
  (50, ⟨.other, 1, false, [.any (Go.Value.nilFunc)]⟩),
  (51, ⟨.other, 1, false, [.any (Go.Value.nilFunc)]⟩),
  (52, ⟨.other, 1, false, [.any (Go.Value.nilFunc)]⟩),
  (53, ⟨.other, 1, false, [.any (Go.Value.nilFunc)]⟩),
  (54, ⟨.other, 1, false, [.any (Go.Value.nilFunc)]⟩),
  (55, ⟨.other, 1, false, [.any (Go.Value.nilFunc)]⟩),
  (56, ⟨.other, 1, false, [.any (Go.Value.nilFunc)]⟩),
  (58, ⟨.other, 1, false, [.any (Go.Value.nilFunc)]⟩),
  (59, ⟨.other, 1, false, [.any (Go.Value.nilFunc)]⟩),
  (61, ⟨.other, 1, false, [.any (Go.Value.nilFunc)]⟩),
  (62, ⟨.slice 5, 1, false, [.any (Go.Value.slice none 0 0)]⟩),
  (63, ⟨.slice 66, 1, false, [.any (Go.Value.slice none 0 0)]⟩),
  (64, ⟨.other, 1, false, [.any (Go.Value.nilFunc)]⟩),
  (65, ⟨.struct [(0, 3), (1, 3), (2, 4), (3, 4)], 4, true, [.int .i64 0, .int .i64 0, .lit false, .lit false]⟩),
  (66, ⟨.struct [(0, 3), (1, 3), (2, 4), (3, 4)], 4, true, [.int .i64 0, .int .i64 0, .lit false, .lit false]⟩),
  (68, ⟨.other, 1, false, [.any (Go.Value.nilFunc)]⟩),
  (69, ⟨.other, 4, true, [.str [], .str [], .str [], .str []]⟩),
  (70, ⟨.other, 1, false, [.any (Go.Value.nilFunc)]⟩),
  (71, ⟨.other, 1, false, [.any (Go.Value.nilFunc)]⟩),
  (72, ⟨.other, 1, false, [.any (Go.Value.nilFunc)]⟩),
  (76, ⟨.other, 1, false, [.any (Go.Value.nilFunc)]⟩),
  (77, ⟨.other, 1, false, [.any (Go.Value.nilFunc)]⟩),
  (78, ⟨.other, 1, false, [.any (Go.Value.pointer none)]⟩),
  (80, ⟨.other, 1, false, [.any (Go.Value.nilFunc)]⟩),
  (81, ⟨.other, 1, false, [.any (Go.Value.nilFunc)]⟩),
  (82, ⟨.other, 1, false, [.any (Go.Value.nilFunc)]⟩),
  (83, ⟨.struct [(0, 9), (1, 9)], 2, true, [.str [], .str []]⟩),
  (84, ⟨.other, 8, true, [.str [], .str [], .str [], .str [], .str [], .str [], .str [], .str []]⟩),
  (85, ⟨.other, 1, false, [.any (Go.Value.pointer none)]⟩),
  (86, ⟨.struct [(0, 85), (1, 62)], 2, true, [.any (Go.Value.pointer none), .any (Go.Value.slice none 0 0)]⟩),
  (87, ⟨.struct [(0, 85), (1, 62)], 2, true, [.any (Go.Value.pointer none), .any (Go.Value.slice none 0 0)]⟩),
  (88, ⟨.other, 1, false, [.any (Go.Value.nilFunc)]⟩),
  (89, ⟨.other, 1, false, [.any (Go.Value.nilFunc)]⟩),
  (90, ⟨.other, 1, false, [.any (Go.Value.nilIface)]⟩),
  (91, ⟨.other, 1, false, [.any (Go.Value.nilIface)]⟩),
  (92, ⟨.other, 1, false, [.any (Go.Value.nilFunc)]⟩),
  (94, ⟨.other, 1, false, [.any (Go.Value.nilFunc)]⟩),
  (95, ⟨.other, 1, false, [.any (Go.Value.nilFunc)]⟩),
  (96, ⟨.other, 1, false, [.any (Go.Value.nilFunc)]⟩),
  (97, ⟨.other, 1, false, [.any (Go.Value.nilFunc)]⟩),
  (98, ⟨.other, 1, false, [.any (Go.Value.nilFunc)]⟩),
  (99, ⟨.other, 1, false, [.any (Go.Value.pointer none)]⟩),
  (100, ⟨.int .u64, 1, false, [.int .u64 0]⟩),
  (101, ⟨.other, 1, false, [.any (Go.Value.nilFunc)]⟩),
  (102, ⟨.other, 1, false, [.any (Go.Value.nilFunc)]⟩),
  (104, ⟨.struct [(0, 5), (1, 5)], 2, true, [.int .u8 0, .int .u8 0]⟩),
  (105, ⟨.struct [(0, 5), (1, 5)], 2, true, [.int .u8 0, .int .u8 0]⟩),
  (107, ⟨.other, 1, false, [.any (Go.Value.nilFunc)]⟩),
  (108, ⟨.other, 1, false, [.any (Go.Value.nilFunc)]⟩),
  (109, ⟨.other, 1, false, [.any (Go.Value.pointer none)]⟩),
  (110, ⟨.other, 1, false, [.any (Go.Value.nilFunc)]⟩),
  (111, ⟨.int .u32, 1, false, [.int .u32 0]⟩),
  (113, ⟨.other, 1, false, [.any (Go.Value.nilFunc)]⟩),
  (114, ⟨.other, 1, false, [.any (Go.Value.nilFunc)]⟩),
  (115, ⟨.other, 1, false, [.any (Go.Value.nilFunc)]⟩),
  (116, ⟨.int .i64, 1, false, [.int .i64 0]⟩),
  (118, ⟨.other, 1, false, [.any (Go.Value.nilFunc)]⟩),
  (119, ⟨.other, 1, false, [.any (Go.Value.nilFunc)]⟩),
  (120, ⟨.other, 1, false, [.any (Go.Value.nilFunc)]⟩),
  (122, ⟨.other, 1, false, [.any (Go.Value.nilFunc)]⟩),
  (123, ⟨.other, 1, false, [.any (Go.Value.nilFunc)]⟩),
  (124, ⟨.other, 1, false, [.any (Go.Value.nilFunc)]⟩),
  (125, ⟨.int .u64, 1, false, [.int .u64 0]⟩),
  (126, ⟨.int .u64, 1, false, [.int .u64 0]⟩),
  (127, ⟨.other, 1, false, [.any (Go.Value.nilFunc)]⟩),
  (128, ⟨.other, 1, false, [.any (Go.Value.nilFunc)]⟩),
  (129, ⟨.other, 1, false, [.any (Go.Value.nilFunc)]⟩),
  (130, ⟨.other, 1, false, [.any (Go.Value.pointer none)]⟩),
  (131, ⟨.other, 1, false, [.any (Go.Value.nilFunc)]⟩),
  (132, ⟨.other, 1, false, [.any (Go.Value.pointer none)]⟩),
  (133, ⟨.other, 1, false, [.any (Go.Value.nilFunc)]⟩),
  (134, ⟨.struct [(0, 17), (1, 17), (2, 17), (3, 9)], 4, true, [.any (Go.Value.pointer none), .any (Go.Value.pointer none), .any (Go.Value.pointer none), .str []]⟩),
  (135, ⟨.struct [(0, 17), (1, 17), (2, 17), (3, 9)], 4, true, [.any (Go.Value.pointer none), .any (Go.Value.pointer none), .any (Go.Value.pointer none), .str []]⟩),
  (136, ⟨.other, 0, true, []⟩),
  (137, ⟨.struct [(0, 136)], 0, true, []⟩),
  (138, ⟨.struct [(0, 136)], 0, true, []⟩),
  (139, ⟨.int .u8, 1, false, [.int .u8 0]⟩),
  (140, ⟨.int .u8, 1, false, [.int .u8 0]⟩),
  (141, ⟨.other, 1, false, [.any (Go.Value.nilFunc)]⟩),
  (142, ⟨.int .i32, 1, false, [.int .i32 0]⟩),
  (143, ⟨.int .i32, 1, false, [.int .i32 0]⟩),
  (144, ⟨.struct [(0, 12), (1, 12), (2, 111), (3, 139), (4, 5), (5, 5), (6, 140), (7, 141), (8, 99), (9, 142), (10, 143)], 11, true, [.int .u64 0, .int .u64 0, .int .u32 0, .int .u8 0, .int .u8 0, .int .u8 0, .int .u8 0, .any (Go.Value.nilFunc), .any (Go.Value.pointer none), .int .i32 0, .int .i32 0]⟩),
  (145, ⟨.struct [(0, 12), (1, 12), (2, 111), (3, 139), (4, 5), (5, 5), (6, 140), (7, 141), (8, 99), (9, 142), (10, 143)], 11, true, [.int .u64 0, .int .u64 0, .int .u32 0, .int .u8 0, .int .u8 0, .int .u8 0, .int .u8 0, .any (Go.Value.nilFunc), .any (Go.Value.pointer none), .int .i32 0, .int .i32 0]⟩)]
set_option maxRecDepth 100000 in
theorem env_ok : EnvOK Tryd.prog env := ⟨⟨Tryd.sizeOf1, Tryd.isAgg1, fun w => ⟨_, Tryd.zeroValue1 w, fun _ => rfl, ⟨rfl, trivial⟩⟩, trivial⟩,
  ⟨Tryd.sizeOf2, Tryd.isAgg2, fun w => ⟨_, Tryd.zeroValue2 w, fun _ => rfl, ⟨trivial, trivial⟩⟩, Tryd.underlying2⟩,
  ⟨Tryd.sizeOf3, Tryd.isAgg3, fun w => ⟨_, Tryd.zeroValue3 w, fun _ => rfl, ⟨trivial, trivial⟩⟩, Tryd.underlying3⟩,
  ⟨Tryd.sizeOf4, Tryd.isAgg4, fun w => ⟨_, Tryd.zeroValue4 w, fun _ => rfl, ⟨trivial, trivial⟩⟩, Tryd.underlying4⟩,
  ⟨Tryd.sizeOf5, Tryd.isAgg5, fun w => ⟨_, Tryd.zeroValue5 w, fun _ => rfl, ⟨trivial, trivial⟩⟩, Tryd.underlying5⟩,
  ⟨Tryd.sizeOf6, Tryd.isAgg6, fun w => ⟨_, Tryd.zeroValue6 w, fun _ => rfl, ⟨trivial, trivial⟩⟩, Tryd.underlying6⟩,
  ⟨Tryd.sizeOf7, Tryd.isAgg7, fun w => ⟨_, Tryd.zeroValue7 w, fun _ => rfl, ⟨trivial, trivial, trivial, trivial, trivial⟩⟩, ⟨_, Tryd.underlying7, rfl⟩⟩,
  ⟨Tryd.sizeOf8, Tryd.isAgg8, fun w => ⟨_, Tryd.zeroValue8 w, fun _ => rfl, ⟨trivial, trivial, trivial, trivial, trivial⟩⟩, ⟨_, Tryd.underlying8, rfl⟩⟩,
  ⟨Tryd.sizeOf9, Tryd.isAgg9, fun w => ⟨_, Tryd.zeroValue9 w, fun _ => rfl, ⟨trivial, trivial⟩⟩, Tryd.underlying9⟩,
  ⟨Tryd.sizeOf10, Tryd.isAgg10, fun w => ⟨_, Tryd.zeroValue10 w, fun _ => rfl, ⟨trivial, trivial⟩⟩, Tryd.underlying10⟩,
  ⟨Tryd.sizeOf11, Tryd.isAgg11, fun w => ⟨_, Tryd.zeroValue11 w, fun _ => rfl, ⟨trivial, trivial⟩⟩, Tryd.underlying11⟩,
  ⟨Tryd.sizeOf12, Tryd.isAgg12, fun w => ⟨_, Tryd.zeroValue12 w, fun _ => rfl, ⟨trivial, trivial⟩⟩, Tryd.underlying12⟩,
  ⟨Tryd.sizeOf13, Tryd.isAgg13, fun w => ⟨_, Tryd.zeroValue13 w, fun _ => rfl, ⟨trivial, trivial, trivial⟩⟩, ⟨_, Tryd.underlying13, rfl⟩⟩,
  ⟨Tryd.sizeOf14, Tryd.isAgg14, fun w => ⟨_, Tryd.zeroValue14 w, fun _ => rfl, ⟨trivial, trivial, trivial⟩⟩, ⟨_, Tryd.underlying14, rfl⟩⟩,
  ⟨Tryd.sizeOf15, Tryd.isAgg15, fun w => ⟨_, Tryd.zeroValue15 w, fun _ => rfl, ⟨rfl, trivial⟩⟩, trivial⟩,
  ⟨Tryd.sizeOf16, Tryd.isAgg16, fun w => ⟨_, Tryd.zeroValue16 w, fun _ => rfl, ⟨rfl, trivial⟩⟩, trivial⟩,
  ⟨Tryd.sizeOf17, Tryd.isAgg17, fun w => ⟨_, Tryd.zeroValue17 w, fun _ => rfl, ⟨rfl, trivial⟩⟩, trivial⟩,
  ⟨Tryd.sizeOf18, Tryd.isAgg18, fun w => ⟨_, Tryd.zeroValue18 w, fun _ => rfl, ⟨rfl, trivial⟩⟩, ⟨_, Tryd.underlying18, rfl⟩⟩,
  ⟨Tryd.sizeOf19, Tryd.isAgg19, fun w => ⟨_, Tryd.zeroValue19 w, fun _ => rfl, ⟨rfl, trivial⟩⟩, ⟨_, Tryd.underlying19, rfl⟩⟩,
  ⟨Tryd.sizeOf20, Tryd.isAgg20, fun w => ⟨_, Tryd.zeroValue20 w, fun _ => rfl, ⟨rfl, trivial⟩⟩, trivial⟩,
  ⟨Tryd.sizeOf21, Tryd.isAgg21, fun w => ⟨_, Tryd.zeroValue21 w, fun _ => rfl, ⟨trivial, trivial⟩⟩, Tryd.underlying21⟩,
  ⟨Tryd.sizeOf22, Tryd.isAgg22, fun w => ⟨_, Tryd.zeroValue22 w, fun _ => rfl, ⟨rfl, trivial⟩⟩, Tryd.underlying22⟩,
  ⟨Tryd.sizeOf23, Tryd.isAgg23, fun w => ⟨_, Tryd.zeroValue23 w, fun _ => rfl, ⟨rfl, trivial⟩⟩, Tryd.underlying23⟩,
  ⟨Tryd.sizeOf24, Tryd.isAgg24, fun w => ⟨_, Tryd.zeroValue24 w, fun _ => rfl, ⟨trivial, trivial⟩⟩, Tryd.underlying24⟩,
  ⟨Tryd.sizeOf26, Tryd.isAgg26, fun w => ⟨_, Tryd.zeroValue26 w, fun _ => rfl, ⟨rfl, trivial⟩⟩, trivial⟩,
  ⟨Tryd.sizeOf27, Tryd.isAgg27, fun w => ⟨_, Tryd.zeroValue27 w, fun _ => rfl, ⟨rfl, trivial⟩⟩, trivial⟩,
  ⟨Tryd.sizeOf28, Tryd.isAgg28, fun w => ⟨_, Tryd.zeroValue28 w, fun _ => rfl, ⟨rfl, trivial⟩⟩, Tryd.underlying28⟩,
  ⟨Tryd.sizeOf29, Tryd.isAgg29, fun w => ⟨_, Tryd.zeroValue29 w, fun _ => rfl, ⟨trivial, trivial, rfl, trivial⟩⟩, ⟨_, Tryd.underlying29, rfl⟩⟩,
  ⟨Tryd.sizeOf30, Tryd.isAgg30, fun w => ⟨_, Tryd.zeroValue30 w, fun _ => rfl, ⟨trivial, trivial, rfl, trivial⟩⟩, ⟨_, Tryd.underlying30, rfl⟩⟩,
  ⟨Tryd.sizeOf31, Tryd.isAgg31, fun w => ⟨_, Tryd.zeroValue31 w, fun _ => rfl, ⟨trivial, trivial, trivial⟩⟩, ⟨_, Tryd.underlying31, rfl⟩⟩,
  ⟨Tryd.sizeOf32, Tryd.isAgg32, fun w => ⟨_, Tryd.zeroValue32 w, fun _ => rfl, ⟨trivial, trivial, trivial⟩⟩, ⟨_, Tryd.underlying32, rfl⟩⟩,
  ⟨Tryd.sizeOf34, Tryd.isAgg34, fun w => ⟨_, Tryd.zeroValue34 w, fun _ => rfl, ⟨rfl, trivial⟩⟩, trivial⟩,
  ⟨Tryd.sizeOf35, Tryd.isAgg35, fun w => ⟨_, Tryd.zeroValue35 w, fun _ => rfl, ⟨rfl, trivial⟩⟩, trivial⟩,
  ⟨Tryd.sizeOf36, Tryd.isAgg36, fun w => ⟨_, Tryd.zeroValue36 w, fun _ => rfl, ⟨rfl, trivial⟩⟩, trivial⟩,
  ⟨Tryd.sizeOf37, Tryd.isAgg37, fun w => ⟨_, Tryd.zeroValue37 w, fun _ => rfl, ⟨trivial, trivial, trivial, trivial, trivial, trivial⟩⟩, ⟨_, Tryd.underlying37, rfl⟩⟩,
  ⟨Tryd.sizeOf38, Tryd.isAgg38, fun w => ⟨_, Tryd.zeroValue38 w, fun _ => rfl, ⟨trivial, trivial, trivial, trivial, trivial, trivial⟩⟩, ⟨_, Tryd.underlying38, rfl⟩⟩,
  ⟨Tryd.sizeOf39, Tryd.isAgg39, fun w => ⟨_, Tryd.zeroValue39 w, fun _ => rfl, ⟨rfl, trivial⟩⟩, trivial⟩,
  ⟨Tryd.sizeOf40, Tryd.isAgg40, fun w => ⟨_, Tryd.zeroValue40 w, fun _ => rfl, ⟨rfl, trivial⟩⟩, trivial⟩,
  ⟨Tryd.sizeOf41, Tryd.isAgg41, fun w => ⟨_, Tryd.zeroValue41 w, fun _ => rfl, ⟨trivial, trivial, trivial, trivial, trivial⟩⟩, trivial⟩,
  ⟨Tryd.sizeOf42, Tryd.isAgg42, fun w => ⟨_, Tryd.zeroValue42 w, fun _ => rfl, ⟨rfl, rfl, trivial, trivial, trivial, trivial, trivial, trivial⟩⟩, ⟨_, Tryd.underlying42, rfl⟩⟩,
  ⟨Tryd.sizeOf43, Tryd.isAgg43, fun w => ⟨_, Tryd.zeroValue43 w, fun _ => rfl, ⟨rfl, rfl, trivial, trivial, trivial, trivial, trivial, trivial⟩⟩, ⟨_, Tryd.underlying43, rfl⟩⟩,
  ⟨Tryd.sizeOf44, Tryd.isAgg44, fun w => ⟨_, Tryd.zeroValue44 w, fun _ => rfl, ⟨rfl, trivial⟩⟩, Tryd.underlying44⟩,
  ⟨Tryd.sizeOf45, Tryd.isAgg45, fun w => ⟨_, Tryd.zeroValue45 w, fun _ => rfl, ⟨rfl, trivial⟩⟩, trivial⟩,
  ⟨Tryd.sizeOf46, Tryd.isAgg46, fun w => ⟨_, Tryd.zeroValue46 w, fun _ => rfl, ⟨rfl, trivial⟩⟩, trivial⟩,
  ⟨Tryd.sizeOf48, Tryd.isAgg48, fun w => ⟨_, Tryd.zeroValue48 w, fun _ => rfl, ⟨rfl, trivial⟩⟩, trivial⟩,
  ⟨Tryd.sizeOf49, Tryd.isAgg49, fun w => ⟨_, Tryd.zeroValue49 w, fun _ => rfl, ⟨rfl, trivial⟩⟩, trivial⟩,
  ⟨Tryd.sizeOf50, Tryd.isAgg50, fun w => ⟨_, Tryd.zeroValue50 w, fun _ => rfl, ⟨rfl, trivial⟩⟩, trivial⟩,
  ⟨Tryd.sizeOf51, Tryd.isAgg51, fun w => ⟨_, Tryd.zeroValue51 w, fun _ => rfl, ⟨rfl, trivial⟩⟩, trivial⟩,
  ⟨Tryd.sizeOf52, Tryd.isAgg52, fun w => ⟨_, Tryd.zeroValue52 w, fun _ => rfl, ⟨rfl, trivial⟩⟩, trivial⟩,
  ⟨Tryd.sizeOf53, Tryd.isAgg53, fun w => ⟨_, Tryd.zeroValue53 w, fun _ => rfl, ⟨rfl, trivial⟩⟩, trivial⟩,
  ⟨Tryd.sizeOf54, Tryd.isAgg54, fun w => ⟨_, Tryd.zeroValue54 w, fun _ => rfl, ⟨rfl, trivial⟩⟩, trivial⟩,
  ⟨Tryd.sizeOf55, Tryd.isAgg55, fun w => ⟨_, Tryd.zeroValue55 w, fun _ => rfl, ⟨rfl, trivial⟩⟩, trivial⟩,
  ⟨Tryd.sizeOf56, Tryd.isAgg56, fun w => ⟨_, Tryd.zeroValue56 w, fun _ => rfl, ⟨rfl, trivial⟩⟩, trivial⟩,
  ⟨Tryd.sizeOf58, Tryd.isAgg58, fun w => ⟨_, Tryd.zeroValue58 w, fun _ => rfl, ⟨rfl, trivial⟩⟩, trivial⟩,
  ⟨Tryd.sizeOf59, Tryd.isAgg59, fun w => ⟨_, Tryd.zeroValue59 w, fun _ => rfl, ⟨rfl, trivial⟩⟩, trivial⟩,
  ⟨Tryd.sizeOf61, Tryd.isAgg61, fun w => ⟨_, Tryd.zeroValue61 w, fun _ => rfl, ⟨rfl, trivial⟩⟩, trivial⟩,
  ⟨Tryd.sizeOf62, Tryd.isAgg62, fun w => ⟨_, Tryd.zeroValue62 w, fun _ => rfl, ⟨rfl, trivial⟩⟩, Tryd.underlying62⟩,
  ⟨Tryd.sizeOf63, Tryd.isAgg63, fun w => ⟨_, Tryd.zeroValue63 w, fun _ => rfl, ⟨rfl, trivial⟩⟩, Tryd.underlying63⟩,
  ⟨Tryd.sizeOf64, Tryd.isAgg64, fun w => ⟨_, Tryd.zeroValue64 w, fun _ => rfl, ⟨rfl, trivial⟩⟩, trivial⟩,
  ⟨Tryd.sizeOf65, Tryd.isAgg65, fun w => ⟨_, Tryd.zeroValue65 w, fun _ => rfl, ⟨trivial, trivial, trivial, trivial, trivial⟩⟩, ⟨_, Tryd.underlying65, rfl⟩⟩,
  ⟨Tryd.sizeOf66, Tryd.isAgg66, fun w => ⟨_, Tryd.zeroValue66 w, fun _ => rfl, ⟨trivial, trivial, trivial, trivial, trivial⟩⟩, ⟨_, Tryd.underlying66, rfl⟩⟩,
  ⟨Tryd.sizeOf68, Tryd.isAgg68, fun w => ⟨_, Tryd.zeroValue68 w, fun _ => rfl, ⟨rfl, trivial⟩⟩, trivial⟩,
  ⟨Tryd.sizeOf69, Tryd.isAgg69, fun w => ⟨_, Tryd.zeroValue69 w, fun _ => rfl, ⟨trivial, trivial, trivial, trivial, trivial⟩⟩, trivial⟩,
  ⟨Tryd.sizeOf70, Tryd.isAgg70, fun w => ⟨_, Tryd.zeroValue70 w, fun _ => rfl, ⟨rfl, trivial⟩⟩, trivial⟩,
  ⟨Tryd.sizeOf71, Tryd.isAgg71, fun w => ⟨_, Tryd.zeroValue71 w, fun _ => rfl, ⟨rfl, trivial⟩⟩, trivial⟩,
  ⟨Tryd.sizeOf72, Tryd.isAgg72, fun w => ⟨_, Tryd.zeroValue72 w, fun _ => rfl, ⟨rfl, trivial⟩⟩, trivial⟩,
  ⟨Tryd.sizeOf76, Tryd.isAgg76, fun w => ⟨_, Tryd.zeroValue76 w, fun _ => rfl, ⟨rfl, trivial⟩⟩, trivial⟩,
  ⟨Tryd.sizeOf77, Tryd.isAgg77, fun w => ⟨_, Tryd.zeroValue77 w, fun _ => rfl, ⟨rfl, trivial⟩⟩, trivial⟩,
  ⟨Tryd.sizeOf78, Tryd.isAgg78, fun w => ⟨_, Tryd.zeroValue78 w, fun _ => rfl, ⟨rfl, trivial⟩⟩, trivial⟩,
  ⟨Tryd.sizeOf80, Tryd.isAgg80, fun w => ⟨_, Tryd.zeroValue80 w, fun _ => rfl, ⟨rfl, trivial⟩⟩, trivial⟩,
  ⟨Tryd.sizeOf81, Tryd.isAgg81, fun w => ⟨_, Tryd.zeroValue81 w, fun _ => rfl, ⟨rfl, trivial⟩⟩, trivial⟩,
  ⟨Tryd.sizeOf82, Tryd.isAgg82, fun w => ⟨_, Tryd.zeroValue82 w, fun _ => rfl, ⟨rfl, trivial⟩⟩, trivial⟩,
  ⟨Tryd.sizeOf83, Tryd.isAgg83, fun w => ⟨_, Tryd.zeroValue83 w, fun _ => rfl, ⟨trivial, trivial, trivial⟩⟩, ⟨_, Tryd.underlying83, rfl⟩⟩,
  ⟨Tryd.sizeOf84, Tryd.isAgg84, fun w => ⟨_, Tryd.zeroValue84 w, fun _ => rfl, ⟨trivial, trivial, trivial, trivial, trivial, trivial, trivial, trivial, trivial⟩⟩, trivial⟩,
  ⟨Tryd.sizeOf85, Tryd.isAgg85, fun w => ⟨_, Tryd.zeroValue85 w, fun _ => rfl, ⟨rfl, trivial⟩⟩, trivial⟩,
  ⟨Tryd.sizeOf86, Tryd.isAgg86, fun w => ⟨_, Tryd.zeroValue86 w, fun _ => rfl, ⟨rfl, rfl, trivial⟩⟩, ⟨_, Tryd.underlying86, rfl⟩⟩,
  ⟨Tryd.sizeOf87, Tryd.isAgg87, fun w => ⟨_, Tryd.zeroValue87 w, fun _ => rfl, ⟨rfl, rfl, trivial⟩⟩, ⟨_, Tryd.underlying87, rfl⟩⟩,
  ⟨Tryd.sizeOf88, Tryd.isAgg88, fun w => ⟨_, Tryd.zeroValue88 w, fun _ => rfl, ⟨rfl, trivial⟩⟩, trivial⟩,
  ⟨Tryd.sizeOf89, Tryd.isAgg89, fun w => ⟨_, Tryd.zeroValue89 w, fun _ => rfl, ⟨rfl, trivial⟩⟩, trivial⟩,
  ⟨Tryd.sizeOf90, Tryd.isAgg90, fun w => ⟨_, Tryd.zeroValue90 w, fun _ => rfl, ⟨rfl, trivial⟩⟩, trivial⟩,
  ⟨Tryd.sizeOf91, Tryd.isAgg91, fun w => ⟨_, Tryd.zeroValue91 w, fun _ => rfl, ⟨rfl, trivial⟩⟩, trivial⟩,
  ⟨Tryd.sizeOf92, Tryd.isAgg92, fun w => ⟨_, Tryd.zeroValue92 w, fun _ => rfl, ⟨rfl, trivial⟩⟩, trivial⟩,
  ⟨Tryd.sizeOf94, Tryd.isAgg94, fun w => ⟨_, Tryd.zeroValue94 w, fun _ => rfl, ⟨rfl, trivial⟩⟩, trivial⟩,
  ⟨Tryd.sizeOf95, Tryd.isAgg95, fun w => ⟨_, Tryd.zeroValue95 w, fun _ => rfl, ⟨rfl, trivial⟩⟩, trivial⟩,
  ⟨Tryd.sizeOf96, Tryd.isAgg96, fun w => ⟨_, Tryd.zeroValue96 w, fun _ => rfl, ⟨rfl, trivial⟩⟩, trivial⟩,
  ⟨Tryd.sizeOf97, Tryd.isAgg97, fun w => ⟨_, Tryd.zeroValue97 w, fun _ => rfl, ⟨rfl, trivial⟩⟩, trivial⟩,
  ⟨Tryd.sizeOf98, Tryd.isAgg98, fun w => ⟨_, Tryd.zeroValue98 w, fun _ => rfl, ⟨rfl, trivial⟩⟩, trivial⟩,
  ⟨Tryd.sizeOf99, Tryd.isAgg99, fun w => ⟨_, Tryd.zeroValue99 w, fun _ => rfl, ⟨rfl, trivial⟩⟩, trivial⟩,
  ⟨Tryd.sizeOf100, Tryd.isAgg100, fun w => ⟨_, Tryd.zeroValue100 w, fun _ => rfl, ⟨trivial, trivial⟩⟩, Tryd.underlying100⟩,
  ⟨Tryd.sizeOf101, Tryd.isAgg101, fun w => ⟨_, Tryd.zeroValue101 w, fun _ => rfl, ⟨rfl, trivial⟩⟩, trivial⟩,
  ⟨Tryd.sizeOf102, Tryd.isAgg102, fun w => ⟨_, Tryd.zeroValue102 w, fun _ => rfl, ⟨rfl, trivial⟩⟩, trivial⟩,
  ⟨Tryd.sizeOf104, Tryd.isAgg104, fun w => ⟨_, Tryd.zeroValue104 w, fun _ => rfl, ⟨trivial, trivial, trivial⟩⟩, ⟨_, Tryd.underlying104, rfl⟩⟩,
  ⟨Tryd.sizeOf105, Tryd.isAgg105, fun w => ⟨_, Tryd.zeroValue105 w, fun _ => rfl, ⟨trivial, trivial, trivial⟩⟩, ⟨_, Tryd.underlying105, rfl⟩⟩,
  ⟨Tryd.sizeOf107, Tryd.isAgg107, fun w => ⟨_, Tryd.zeroValue107 w, fun _ => rfl, ⟨rfl, trivial⟩⟩, trivial⟩,
  ⟨Tryd.sizeOf108, Tryd.isAgg108, fun w => ⟨_, Tryd.zeroValue108 w, fun _ => rfl, ⟨rfl, trivial⟩⟩, trivial⟩,
  ⟨Tryd.sizeOf109, Tryd.isAgg109, fun w => ⟨_, Tryd.zeroValue109 w, fun _ => rfl, ⟨rfl, trivial⟩⟩, trivial⟩,
  ⟨Tryd.sizeOf110, Tryd.isAgg110, fun w => ⟨_, Tryd.zeroValue110 w, fun _ => rfl, ⟨rfl, trivial⟩⟩, trivial⟩,
  ⟨Tryd.sizeOf111, Tryd.isAgg111, fun w => ⟨_, Tryd.zeroValue111 w, fun _ => rfl, ⟨trivial, trivial⟩⟩, Tryd.underlying111⟩,
  ⟨Tryd.sizeOf113, Tryd.isAgg113, fun w => ⟨_, Tryd.zeroValue113 w, fun _ => rfl, ⟨rfl, trivial⟩⟩, trivial⟩,
  ⟨Tryd.sizeOf114, Tryd.isAgg114, fun w => ⟨_, Tryd.zeroValue114 w, fun _ => rfl, ⟨rfl, trivial⟩⟩, trivial⟩,
  ⟨Tryd.sizeOf115, Tryd.isAgg115, fun w => ⟨_, Tryd.zeroValue115 w, fun _ => rfl, ⟨rfl, trivial⟩⟩, trivial⟩,
  ⟨Tryd.sizeOf116, Tryd.isAgg116, fun w => ⟨_, Tryd.zeroValue116 w, fun _ => rfl, ⟨trivial, trivial⟩⟩, Tryd.underlying116⟩,
  ⟨Tryd.sizeOf118, Tryd.isAgg118, fun w => ⟨_, Tryd.zeroValue118 w, fun _ => rfl, ⟨rfl, trivial⟩⟩, trivial⟩,
  ⟨Tryd.sizeOf119, Tryd.isAgg119, fun w => ⟨_, Tryd.zeroValue119 w, fun _ => rfl, ⟨rfl, trivial⟩⟩, trivial⟩,
  ⟨Tryd.sizeOf120, Tryd.isAgg120, fun w => ⟨_, Tryd.zeroValue120 w, fun _ => rfl, ⟨rfl, trivial⟩⟩, trivial⟩,
  ⟨Tryd.sizeOf122, Tryd.isAgg122, fun w => ⟨_, Tryd.zeroValue122 w, fun _ => rfl, ⟨rfl, trivial⟩⟩, trivial⟩,
  ⟨Tryd.sizeOf123, Tryd.isAgg123, fun w => ⟨_, Tryd.zeroValue123 w, fun _ => rfl, ⟨rfl, trivial⟩⟩, trivial⟩,
  ⟨Tryd.sizeOf124, Tryd.isAgg124, fun w => ⟨_, Tryd.zeroValue124 w, fun _ => rfl, ⟨rfl, trivial⟩⟩, trivial⟩,
  ⟨Tryd.sizeOf125, Tryd.isAgg125, fun w => ⟨_, Tryd.zeroValue125 w, fun _ => rfl, ⟨trivial, trivial⟩⟩, Tryd.underlying125⟩,
  ⟨Tryd.sizeOf126, Tryd.isAgg126, fun w => ⟨_, Tryd.zeroValue126 w, fun _ => rfl, ⟨trivial, trivial⟩⟩, Tryd.underlying126⟩,
  ⟨Tryd.sizeOf127, Tryd.isAgg127, fun w => ⟨_, Tryd.zeroValue127 w, fun _ => rfl, ⟨rfl, trivial⟩⟩, trivial⟩,
  ⟨Tryd.sizeOf128, Tryd.isAgg128, fun w => ⟨_, Tryd.zeroValue128 w, fun _ => rfl, ⟨rfl, trivial⟩⟩, trivial⟩,
  ⟨Tryd.sizeOf129, Tryd.isAgg129, fun w => ⟨_, Tryd.zeroValue129 w, fun _ => rfl, ⟨rfl, trivial⟩⟩, trivial⟩,
  ⟨Tryd.sizeOf130, Tryd.isAgg130, fun w => ⟨_, Tryd.zeroValue130 w, fun _ => rfl, ⟨rfl, trivial⟩⟩, trivial⟩,
  ⟨Tryd.sizeOf131, Tryd.isAgg131, fun w => ⟨_, Tryd.zeroValue131 w, fun _ => rfl, ⟨rfl, trivial⟩⟩, trivial⟩,
  ⟨Tryd.sizeOf132, Tryd.isAgg132, fun w => ⟨_, Tryd.zeroValue132 w, fun _ => rfl, ⟨rfl, trivial⟩⟩, trivial⟩,
  ⟨Tryd.sizeOf133, Tryd.isAgg133, fun w => ⟨_, Tryd.zeroValue133 w, fun _ => rfl, ⟨rfl, trivial⟩⟩, trivial⟩,
  ⟨Tryd.sizeOf134, Tryd.isAgg134, fun w => ⟨_, Tryd.zeroValue134 w, fun _ => rfl, ⟨rfl, rfl, rfl, trivial, trivial⟩⟩, ⟨_, Tryd.underlying134, rfl⟩⟩,
  ⟨Tryd.sizeOf135, Tryd.isAgg135, fun w => ⟨_, Tryd.zeroValue135 w, fun _ => rfl, ⟨rfl, rfl, rfl, trivial, trivial⟩⟩, ⟨_, Tryd.underlying135, rfl⟩⟩,
  ⟨Tryd.sizeOf136, Tryd.isAgg136, fun w => ⟨_, Tryd.zeroValue136 w, fun _ => rfl, trivial⟩, trivial⟩,
  ⟨Tryd.sizeOf137, Tryd.isAgg137, fun w => ⟨_, Tryd.zeroValue137 w, fun _ => rfl, trivial⟩, ⟨_, Tryd.underlying137, rfl⟩⟩,
  ⟨Tryd.sizeOf138, Tryd.isAgg138, fun w => ⟨_, Tryd.zeroValue138 w, fun _ => rfl, trivial⟩, ⟨_, Tryd.underlying138, rfl⟩⟩,
  ⟨Tryd.sizeOf139, Tryd.isAgg139, fun w => ⟨_, Tryd.zeroValue139 w, fun _ => rfl, ⟨trivial, trivial⟩⟩, Tryd.underlying139⟩,
  ⟨Tryd.sizeOf140, Tryd.isAgg140, fun w => ⟨_, Tryd.zeroValue140 w, fun _ => rfl, ⟨trivial, trivial⟩⟩, Tryd.underlying140⟩,
  ⟨Tryd.sizeOf141, Tryd.isAgg141, fun w => ⟨_, Tryd.zeroValue141 w, fun _ => rfl, ⟨rfl, trivial⟩⟩, trivial⟩,
  ⟨Tryd.sizeOf142, Tryd.isAgg142, fun w => ⟨_, Tryd.zeroValue142 w, fun _ => rfl, ⟨trivial, trivial⟩⟩, Tryd.underlying142⟩,
  ⟨Tryd.sizeOf143, Tryd.isAgg143, fun w => ⟨_, Tryd.zeroValue143 w, fun _ => rfl, ⟨trivial, trivial⟩⟩, Tryd.underlying143⟩,
  ⟨Tryd.sizeOf144, Tryd.isAgg144, fun w => ⟨_, Tryd.zeroValue144 w, fun _ => rfl, ⟨trivial, trivial, trivial, trivial, trivial, trivial, trivial, rfl, rfl, trivial, trivial, trivial⟩⟩, ⟨_, Tryd.underlying144, rfl⟩⟩,
  ⟨Tryd.sizeOf145, Tryd.isAgg145, fun w => ⟨_, Tryd.zeroValue145 w, fun _ => rfl, ⟨trivial, trivial, trivial, trivial, trivial, trivial, trivial, rfl, rfl, trivial, trivial, trivial⟩⟩, ⟨_, Tryd.underlying145, rfl⟩⟩, (show Tryd.prog.follows .mixedOrders = true by kernel_rfl)⟩
end Sym
end Go.Proofs.YtnbahdnjcdimgaaDoor
namespace Go.Proofs.YtnbahdnjcdimgaaDoor
open Go.RowKit
open Sym
attribute [local irreducible] Calls Sym.AggEq
abbrev QC (f : FuncId) (args : Array Value) (w : World) (v : Value) : Prop := Calls Tryd.prog f args w fun e w' => e = .returned v ∧ Below w.heap.size w w'
structure YI (p q : Prop) : Prop where
  go : q → p
theorem Yi.r {q : Prop} : YI q q := ⟨id⟩
theorem Yi.a {p r A B q : Prop} (n : ¬ p) (k : YI B q) : YI ((p → A) ∧ (r → B)) q := ⟨fun x => ⟨fun h => absurd h n, fun _ => k.go x⟩⟩
theorem Yi.b {p r A B q : Prop} (n : ¬ r) (k : YI A q) : YI ((p → A) ∧ (r → B)) q := ⟨fun x => ⟨fun _ => k.go x, fun h => absurd h n⟩⟩
theorem Yi.c {p A q : Prop} (n : p) (k : YI A q) : YI (p ∧ A) q := ⟨fun x => ⟨n, k.go x⟩⟩
theorem Yi.d {a : IntKind} {b : Int} {A q : Prop} (n : inK a b) (k : YI A q) : YI (inK a b ∧ A) q := ⟨fun x => ⟨n, k.go x⟩⟩
theorem Yi.e {a : Int} {A q : Prop} (n : a ≤ 9223372036854775807) (k : YI A q) : YI (a ≤ 9223372036854775807 ∧ A) q := ⟨fun x => ⟨n, k.go x⟩⟩
theorem Yi.g {C : Ctx} {all l : List Oper} {k : List It} {dst : Option Nat} {f : FuncId} {args : List SV} {st : St} {q : Prop} (hE : EnvOK C.P C.E) (hres : C.fn.results = C.res.toArray) (h : YI (CallX C dst f args st (fun st' => wpS C 1000 (.ops all l :: k) st')) q) : YI (CallN C all l k dst f args st) q := ⟨fun x => call_of hE hres 1000 (h.go x)⟩
theorem Yi.h {C : Ctx} {all l : List Oper} {k : List It} {o : Oper} {st : St} {q : Prop} (hE : EnvOK C.P C.E) (hres : C.fn.results = C.res.toArray) (h : YI (OpX C o st (fun st' => wpS C 1000 (.ops all l :: k) st')) q) : YI (XopN C all l k o st) q := ⟨fun x => xop_of hE hres 1000 (h.go x)⟩
theorem Yi.i {p : (Nat → Nat) → Prop} : YI (AllBe p) (∀ β, p β) := ⟨fun h => allBe h⟩
theorem yX {p q : Prop} (h : q) (e : YI p q := by
  first
  | (with_reducible first | show YI (wpS ..) _ | show YI (putD ..) _ | show YI (putW ..) _ | show YI (splitG ..) _ | show YI (wpQ ..) _ | show YI (wpD ..) _ | show YI (wpX ..) _ | show YI (expX ..) _ | show YI (stepX ..) _ | show YI (keepR ..) _ | show YI (wpY ..) _ | show YI (roF ..) _); (conv => arg 1; whnf)
  | (apply Yi.a; · first | omega | decide)
  | (apply Yi.b; · first | omega | decide)
  | (apply Yi.c; · kernel_rfl)
  | (apply Yi.d; · (unfold inK; omega))
  | (apply Yi.e; · ((try simp only [List.length_append, List.length_drop, List.length_take, List.length_cons, List.length_nil]); omega))
  | ((with_reducible show YI (CallN ..) _); apply Yi.g; (· exact env_ok); (· rfl))
  | ((with_reducible show YI (XopN ..) _); apply Yi.h; (· exact env_ok); (· rfl))
  | ((with_reducible show YI (AllBe ..) _); exact Yi.i)
  all_goals repeat' (first
  | (with_reducible first | show YI (wpS ..) _ | show YI (putD ..) _ | show YI (putW ..) _ | show YI (splitG ..) _ | show YI (wpQ ..) _ | show YI (wpD ..) _ | show YI (wpX ..) _ | show YI (expX ..) _ | show YI (stepX ..) _ | show YI (keepR ..) _ | show YI (wpY ..) _ | show YI (roF ..) _); (conv => arg 1; whnf)
  | (apply Yi.a; · first | omega | decide)
  | (apply Yi.b; · first | omega | decide)
  | (apply Yi.c; · kernel_rfl)
  | (apply Yi.d; · (unfold inK; omega))
  | (apply Yi.e; · ((try simp only [List.length_append, List.length_drop, List.length_take, List.length_cons, List.length_nil]); omega))
  | ((with_reducible show YI (CallN ..) _); apply Yi.g; (· exact env_ok); (· rfl))
  | ((with_reducible show YI (XopN ..) _); apply Yi.h; (· exact env_ok); (· rfl))
  | ((with_reducible show YI (AllBe ..) _); exact Yi.i)
  | exact Yi.r)) : p := e.go h
structure YJ (p q r : Prop) : Prop where
  go : q → r → p
theorem Yj.x {p q : Prop} (e : YI p q) : YJ p q True := ⟨fun h _ => e.go h⟩
theorem Yj.a {p q : Prop} : YJ (p ∧ q) p q := ⟨And.intro⟩
theorem Yj.b {p q : Prop} : YJ (bothX p q) p q := ⟨bothI⟩
theorem Yj.c {P : Program} {E : Env} {w0 : World} {fn : Func} {res : List ResultVar} {V : Value} {st : St} {v : SV} {sc sb : List Nat} : YJ (RetN ⟨P, E, w0.heap.size, Base.of w0, fn, res, fun e w' => e = .returned V ∧ Below w0.heap.size w0 w', sc, sb⟩ st v) (∀ β, v.den β = V) True := ⟨fun h _ => retB h⟩
theorem yW {p : Prop} (h : p := by ((with_reducible show wk _ _); repeat' (first | exact trivial | exact eqSV_refl _ | (refine eqI ?_) | (refine eqS ?_) | (with_reducible exact rfl) | apply And.intro | exact Nat.zero_lt_one | exact Nat.le_of_ble_eq_true rfl | (with_reducible assumption) | ((show (_ : Int) = _); (try dsimp only); omega) | ((show eqSV _ _); simp [eqSV, isB, bval, *]; done) | rfl)); all_goals exact fun b x h => h) : p := h
theorem yV {p : Prop} (h : p := by first | exact trivial | exact eqSV_refl _ | (with_reducible exact rfl) | exact Nat.zero_lt_one | exact Nat.le_of_ble_eq_true rfl | (with_reducible assumption) | ((show (_ : Int) = _); (try dsimp only); omega) | ((show eqSV _ _); simp [eqSV, isB, bval, *]; done) | rfl) : p := h
theorem yE {f : FuncId} {fn : Func} {c : Code} {res : List ResultVar} {nt : Nat} {R : Ending → World → Prop} (hf : Tryd.prog.funcs[f]? = some fn) (hb : fn.body = some c) (hres : fn.results = res.toArray) (hnt : fn.ntmps = nt)
    (sc sb : List Nat) (vs : List SV) (w : World) (h : wpS ⟨Tryd.prog, env, w.heap.size, Base.of w, fn, res, R, sc, sb⟩ 1000 [.code c] ⟨argSlots 0 vs, [], 0, nt⟩)
    (hv : SV.oks 0 vs := by first | (simp [SV.oks, SV.ok]; done) | (repeat' (first | exact trivial | rfl | apply And.intro))) (hlen : vs.length ≤ nt := by exact Nat.le_of_ble_eq_true rfl) :
    Calls Tryd.prog f (SV.dens (fun _ => 0) vs).toArray w R := enter env_ok hf hb hres hnt sc sb vs hv hlen w R 1000 h
theorem yK {C : Ctx} {d : Nat} {f : FuncId} {args : List SV} {fr : List (Nat × SV)} {rows : List (Nat × Bool × SRow)} {nx n : Nat} {K : St → Prop} (v : SV)
    (hc : ∀ β w, Mem C.base C.w0 rows nx β w → Calls C.P f (SV.dens β args).toArray w fun e w' => e = .returned (v.den β) ∧ Below w.heap.size w w') (h : K ⟨(d, v) :: fr, rows, nx, n⟩)
    (he : entersB C.P f = true := by kernel_rfl) (hd : Nat.blt d n = true := by rfl) (hv : v.ok nx := by repeat' (first | exact trivial | rfl | apply And.intro)) : CallX C (some d) f args ⟨fr, rows, nx, n⟩ K := callX v he hd hv hc h
theorem yO {C : Ctx} {G : Blobs} {op : Op} {us : List SV} {v : SV} {K : SV → Prop} (hx : ExtN C G op us v) (h : K v)
    (ok : ∀ n, SV.oks n us → v.ok n := by first | exact fun _ _ => trivial | exact fun _ _ => rfl | exact fun _ h => h.1 | exact fun _ h => h) : ∃ v : SV, (∀ n, SV.oks n us → v.ok n) ∧ ExtN C G op us v ∧ K v := ⟨v, ok, hx, h⟩
theorem yN {C : Ctx} {G : Blobs} {x y : Operand} {t e : TypeId} {a : Addr} {len cap j sz : Nat} {i : Int} {K : SV → Prop} (ht : C.P.underlying t = some (.slice e)) (hs : ∀ w, (sizeOf e).run C.P w = .ok sz w) (h : K (.any (.pointer (some (a.add (j * sz))))))
    (hi : i = (j : Nat) := by omega) (hj : j < len := by omega) (ok : ∀ n, SV.oks n [.any (.slice (some a) len cap), .int .i64 i] → (SV.any (.pointer (some (a.add (j * sz))))).ok n := by exact fun _ _ => rfl) : ∃ v : SV, (∀ n, SV.oks n [.any (.slice (some a) len cap), .int .i64 i] → v.ok n) ∧ ExtN C G (.indexAddr t x y) [.any (.slice (some a) len cap), .int .i64 i] v ∧ K v := ⟨_, ok, x_index hi ht hs hj, h⟩
inductive YL (rows : List (Nat × Bool × SRow)) (a : Option Addr) (xs : List Value) : Prop
  | f (j : Nat) {o : Bool} {bs : Nat} (h : get rows j = some (o, .blob (SlF bs a xs)))
  | b (j : Nat) {o : Bool} (h : get rows j = some (o, .blob (SlB a xs)))
inductive YM (rows : List (Nat × Bool × SRow)) (b : Nat) (a : Option Addr) (xs : List Value) : Prop
  | f (j : Nat) {o : Bool} (h : get rows j = some (o, .blob (SlF b a xs)))
theorem yZ {C : Ctx} {c : Code} {k : List It} {st : St} {T : Type} (J : T → St) (μ : T → Nat) (t0 : T) (sc sb : List Nat)
    (h : ∀ t (I : Act → World → Prop), (∀ st' t', μ t' < μ t → wk st' (J t') → BackN { C with sc := sc, sb := sb } I st') → wpS { C with sc := sc, sb := sb } 1000 (.code c :: .back I :: k) (J t))
    (h0 : wk st (J t0) := by exact yW) (hn0 : ∀ t, C.w0.n0 ≤ (J t).next := by exact fun _ => Nat.zero_le _) (hE : EnvOK C.P C.E := by exact env_ok) (hres : C.fn.results = C.res.toArray := by rfl) : LoopN C c k st :=
  loop hE hres J μ t0 1000 sc sb hn0 h0 h
theorem yJ {C : Ctx} {c : Code} {k : List It} {st : St} {T : Type} (J : T → St) (sc sb sc' sb' : List Nat)
    (h : ∀ (I : Act → World → Prop), (∀ st' t', wk st' (J t') → BackN { C with sc := sc, sb := sb } I st') → wpS { C with sc := sc, sb := sb } 1000 (.code c :: .back I :: k) st)
    (h2 : ∀ t, wpS { C with sc := sc', sb := sb' } 1000 k (J t)) (hn0 : ∀ t, C.w0.n0 ≤ (J t).next := by exact fun _ => Nat.zero_le _) (hE : EnvOK C.P C.E := by exact env_ok) (hres : C.fn.results = C.res.toArray := by rfl) : StopN C (.code c :: k) st :=
  join hE hres J 1000 1000 sc sb sc' sb' hn0 h h2
end Go.Proofs.YtnbahdnjcdimgaaDoor
namespace Go.Proofs.YtnbahdnjcdimgaaDoor.VaP
open Go.Proofs.YtnbahdnjcdimgaaDoor
abbrev Str := List UInt8
/-- a byte of a text, 0 beyond its end -/
def bt (s : Str) (i : Nat) : Nat := (s.getD i 0).toNat
/-- the first character of a text and its length -/
def dec (s : Str) : Nat × Nat := Lib.decodeGo (bstr s)
theorem bt_lt (s : Str) (i : Nat) : bt s i < 256 := (s.getD i 0).toNat_lt
theorem bt_get (s : Str) (i : Nat) : ((bstr s).get! i).toNat = bt s i := by
  unfold bt bstr ByteArray.get!
  rw [List.getD_eq_getElem?_getD]
  simp [Array.getElem!_eq_getD, Array.getD_eq_getD_getElem?]
  rfl
theorem dec_eq {s : Str} (h : s ≠ []) : dec s = Lib.decodeN s.length (bt s 0) (bt s 1) (bt s 2) (bt s 3) := by
  have h1 : ¬ (bstr s).size = 0 := fun e => h (List.eq_nil_of_length_eq_zero e)
  unfold dec Lib.decodeGo
  rw [if_neg h1, Lib.decode_at, bt_get, bt_get, bt_get, bt_get]
  rfl
/-- the first character of a text; the length is 0 if there is none that is right -/
def rune (s : Str) : Nat × Nat := if dec s = (65533, 1) then (0, 0) else dec s
theorem dec_len {s : Str} (h : s ≠ []) : 1 ≤ (dec s).2 ∧ (dec s).2 ≤ s.length := by
  have h0 : 0 < s.length := List.length_pos_iff.2 h
  rw [dec_eq h]
  unfold Lib.decodeN
  repeat' split
  all_goals (dsimp only; omega)
theorem dec_lt {s : Str} (h : s ≠ []) : (dec s).1 ≤ 1114111 := by
  have := bt_lt s 0
  rw [dec_eq h]
  unfold Lib.decodeN
  repeat' split
  all_goals (dsimp only; omega)
theorem rune_bad {s : Str} (h : dec s = (65533, 1)) : rune s = (0, 0) := if_pos h
theorem rune_ok {s : Str} {c n : Nat} (h : dec s = (c, n)) (hn : (c, n) ≠ (65533, 1)) : rune s = (c, n) := by
  unfold rune; rw [if_neg (by rw [h]; exact hn), h]
theorem rune_1 {s : Str} (h : s ≠ []) (h0 : bt s 0 < 128) : rune s = (bt s 0, 1) := by
  have := dec_eq h
  refine rune_ok (by rw [this]; unfold Lib.decodeN; rw [if_pos h0]) (fun e => ?_)
  have := congrArg Prod.fst e
  dsimp only at this; omega
theorem rune_0 {s : Str} (h : s ≠ []) (h0 : 128 ≤ bt s 0) (h1 : bt s 0 < 194 ∨ 245 ≤ bt s 0) : rune s = (0, 0) := by
  apply rune_bad
  rw [dec_eq h]
  unfold Lib.decodeN
  repeat' split
  all_goals first | rfl | (exfalso; omega)
/-- a text of two bytes and more -/
theorem rune_2 {s : Str} (h : s ≠ []) (h0 : 194 ≤ bt s 0) (h1 : bt s 0 < 224) : rune s = if 1 < s.length ∧ bt s 1 / 64 = 2 then (bt s 0 % 32 * 64 + bt s 1 % 64, 2) else (0, 0) := by
  have hd := dec_eq h
  unfold Lib.decodeN at hd
  rw [if_neg (by omega)] at hd
  by_cases hc : 1 < s.length ∧ bt s 1 / 64 = 2
  · rw [if_pos hc]
    rw [if_pos ⟨by omega, hc⟩, if_pos (by omega)] at hd
    exact rune_ok hd (fun e => by have := congrArg Prod.snd e; simp at this)
  · rw [if_neg hc]
    rw [if_neg (fun h => hc h.2), if_neg (by omega), if_neg (by omega)] at hd
    exact rune_bad hd
theorem rune_3 {s : Str} (h : s ≠ []) (h0 : 224 ≤ bt s 0) (h1 : bt s 0 < 240) : rune s = if (1 < s.length ∧ bt s 1 / 64 = 2) ∧ (2 < s.length ∧ bt s 2 / 64 = 2) ∧ 2048 ≤ bt s 0 % 16 * 4096 + bt s 1 % 64 * 64 + bt s 2 % 64 ∧ (bt s 0 % 16 * 4096 + bt s 1 % 64 * 64 + bt s 2 % 64 < 55296 ∨ 57344 ≤ bt s 0 % 16 * 4096 + bt s 1 % 64 * 64 + bt s 2 % 64) then (bt s 0 % 16 * 4096 + bt s 1 % 64 * 64 + bt s 2 % 64, 3) else (0, 0) := by
  have hd := dec_eq h
  unfold Lib.decodeN at hd
  rw [if_neg (by omega), if_neg (by omega)] at hd
  by_cases hc : (1 < s.length ∧ bt s 1 / 64 = 2) ∧ (2 < s.length ∧ bt s 2 / 64 = 2)
  · rw [if_pos ⟨by omega, hc⟩] at hd
    by_cases hr : 2048 ≤ bt s 0 % 16 * 4096 + bt s 1 % 64 * 64 + bt s 2 % 64 ∧ (bt s 0 % 16 * 4096 + bt s 1 % 64 * 64 + bt s 2 % 64 < 55296 ∨ 57344 ≤ bt s 0 % 16 * 4096 + bt s 1 % 64 * 64 + bt s 2 % 64)
    · rw [if_pos ⟨hc.1, hc.2, hr⟩]
      rw [if_pos ⟨hr.1, hr.2.imp id (fun h => ⟨h, by omega⟩)⟩] at hd
      exact rune_ok hd (fun e => by have := congrArg Prod.snd e; simp at this)
    · rw [if_neg (fun h => hr h.2.2)]
      rw [if_neg (fun h => hr ⟨h.1, h.2.imp id And.left⟩)] at hd
      exact rune_bad hd
  · rw [if_neg (fun h => hc ⟨h.1, h.2.1⟩)]
    rw [if_neg (fun h => hc h.2), if_neg (by omega)] at hd
    exact rune_bad hd
theorem rune_4 {s : Str} (h : s ≠ []) (h0 : 240 ≤ bt s 0) (h1 : bt s 0 < 245) : rune s = if (1 < s.length ∧ bt s 1 / 64 = 2) ∧ (2 < s.length ∧ bt s 2 / 64 = 2) ∧ (3 < s.length ∧ bt s 3 / 64 = 2) ∧ 65536 ≤ bt s 0 % 8 * 262144 + bt s 1 % 64 * 4096 + bt s 2 % 64 * 64 + bt s 3 % 64 ∧ bt s 0 % 8 * 262144 + bt s 1 % 64 * 4096 + bt s 2 % 64 * 64 + bt s 3 % 64 ≤ 1114111 then (bt s 0 % 8 * 262144 + bt s 1 % 64 * 4096 + bt s 2 % 64 * 64 + bt s 3 % 64, 4) else (0, 0) := by
  have hd := dec_eq h
  unfold Lib.decodeN at hd
  rw [if_neg (by omega), if_neg (by omega), if_neg (by omega)] at hd
  by_cases hc : (1 < s.length ∧ bt s 1 / 64 = 2) ∧ (2 < s.length ∧ bt s 2 / 64 = 2) ∧ (3 < s.length ∧ bt s 3 / 64 = 2)
  · rw [if_pos ⟨by omega, hc⟩] at hd
    by_cases hr : 65536 ≤ bt s 0 % 8 * 262144 + bt s 1 % 64 * 4096 + bt s 2 % 64 * 64 + bt s 3 % 64 ∧ bt s 0 % 8 * 262144 + bt s 1 % 64 * 4096 + bt s 2 % 64 * 64 + bt s 3 % 64 ≤ 1114111
    · rw [if_pos ⟨hc.1, hc.2.1, hc.2.2, hr⟩]
      rw [if_pos ⟨hr.1, .inr ⟨by omega, hr.2⟩⟩] at hd
      exact rune_ok hd (fun e => by have := congrArg Prod.snd e; simp at this)
    · rw [if_neg (fun h => hr h.2.2.2)]
      rw [if_neg (fun h => hr ⟨h.1, by omega⟩)] at hd
      exact rune_bad hd
  · rw [if_neg (fun h => hc ⟨h.1, h.2.1, h.2.2.1⟩)]
    rw [if_neg (fun h => hc h.2)] at hd
    exact rune_bad hd
/-- characters that are permitted -/
def charP (c : Nat) : Bool := decide (c = 9) || decide (c = 10) || (decide (32 ≤ c) && decide (c < 127)) || (decide (160 ≤ c) && decide (c < 55296)) || (decide (57343 < c) && decide (c ≤ 1114111))
/-- a value -/
structure VT where
  kind : Int
  num : ExP.Fr
  text : Str
  on : Bool
  code : Int
  rows : Int
  cols : Int
  items : List VT
end Go.Proofs.YtnbahdnjcdimgaaDoor.VaP
