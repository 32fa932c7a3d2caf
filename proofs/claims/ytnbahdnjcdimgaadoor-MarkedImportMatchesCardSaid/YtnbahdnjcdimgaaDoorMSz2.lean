/- A walk that reckons: what it says is so. -/
import Derived.Test.YtnbahdnjcdimgaaDoorMGA
import Derived.Deep.Quiet
import Derived.Deep.LoopGhost
set_option linter.unusedSimpArgs false
set_option linter.unusedVariables false
namespace Go.Proofs.YtnbahdnjcdimgaaDoor
open Go.RowKit
namespace Sym
theorem contQ_ret (P : Program) (Q : Exit → Act → World → Prop) (a : Act) (w : World) : ∀ k, contQ P Q k .ret a w = Q .ret a w
  | [] => rfl
  | .code _ :: k => contQ_ret P Q a w k
  | .ops _ _ :: k => contQ_ret P Q a w k
  | .inBlk _ :: k => contQ_ret P Q a w k
  | .back _ :: k => contQ_ret P Q a w k
theorem contQ_exit (P : Program) (Q : Exit → Act → World → Prop) (a : Act) (w : World) (id : Nat) : ∀ k k', popTo id k = some k' → contQ P Q k (.exit id) a w = contQ P Q k' .normal a w
  | [], _, h => by simp [popTo] at h
  | .code _ :: k, k', h => contQ_exit P Q a w id k k' h
  | .ops _ _ :: k, k', h => contQ_exit P Q a w id k k' h
  | .back _ :: k, k', h => contQ_exit P Q a w id k k' h
  | .inBlk j :: k, k', h => by
    simp only [popTo] at h
    show Exit.inBlock j (contQ P Q k) (.exit id) a w = _
    simp only [Exit.inBlock]
    cases hj : Nat.beq j id with
    | true =>
      rw [hj] at h
      simp at h
      rw [if_pos (Nat.eq_of_beq_eq_true hj).symm, h]
    | false =>
      rw [hj] at h
      rw [if_neg (fun e => Nat.ne_of_beq_eq_false hj e.symm)]
      exact contQ_exit P Q a w id k k' h
theorem br_sound {v : SV} {T F : Prop} {β : Nat → Nat} (h : br v T F) : ∃ b, v.den β = .bool b ∧ (b = true → T) ∧ (b = false → F) := by
  cases v with
  | lit b => cases b with
    | true => exact ⟨true, rfl, fun _ => h, fun e => Bool.noConfusion e⟩
    | false => exact ⟨false, rfl, fun e => Bool.noConfusion e, fun _ => h⟩
  | bool b => exact ⟨b, rfl, h.1, h.2⟩
  | prop p hp => exact ⟨@decide p hp, rfl, fun e => h.1 (of_decide_eq_true e), fun e => h.2 (of_decide_eq_false e)⟩
  | _ => exact h.elim
section
variable {base : Nat} {w0 : Base} {st : St} {β : Nat → Nat} {a : Act} {w : World}
theorem const_sound {v : Value} {u : SV} {n : Nat} (h : constSV v = some u) : v = u.den β ∧ u.ok n := by
  cases v <;> simp only [constSV] at h <;> first | (cases h; done) | (cases h; exact ⟨rfl, trivial⟩) | (cases h; exact ⟨rfl, rfl⟩)
theorem ev_sound (hs : Sat base w0 st β a w) {x : Operand} {v : SV} (h : ev st.fr x = some v) : a.eval x = v.den β ∧ v.ok st.next := by
  cases x with
  | tmp t => exact hs.slot t v h
  | const c => exact const_sound h
  | global g => cases h; exact ⟨rfl, rfl⟩
  | func f => cases h; exact ⟨rfl, trivial⟩
theorem evs_sound (hs : Sat base w0 st β a w) : ∀ (xs : List Operand) (K : List SV → Prop), evs st.fr xs K → ∃ vs, K vs ∧ xs.map a.eval = SV.dens β vs
  | [], K, h => ⟨[], h, rfl⟩
  | x :: r, K, h => by
    simp only [evs] at h
    cases hx : ev st.fr x with
    | none => rw [hx] at h; exact h.elim
    | some v =>
      rw [hx] at h
      obtain ⟨vs, hK, e⟩ := evs_sound hs r _ h
      exact ⟨_, hK, by simp only [List.map_cons, SV.dens, e, (ev_sound hs hx).1]⟩
theorem evs_ok (hs : Sat base w0 st β a w) : ∀ (xs : List Operand) (K : List SV → Prop), evs st.fr xs K → ∃ vs, K vs ∧ xs.map a.eval = SV.dens β vs ∧ SV.oks st.next vs
  | [], K, h => ⟨[], h, rfl, trivial⟩
  | x :: r, K, h => by
    simp only [evs] at h
    cases hx : ev st.fr x with
    | none => rw [hx] at h; exact h.elim
    | some v =>
      rw [hx] at h
      obtain ⟨vs, hK, e, ho⟩ := evs_ok hs r _ h
      exact ⟨_, hK, by simp only [List.map_cons, SV.dens, e, (ev_sound hs hx).1], (ev_sound hs hx).2, ho⟩
theorem Sat.put (hs : Sat base w0 st β a w) {d : Nat} (hd : d < st.n) {v : SV} (hv : v.ok st.next) : Sat base w0 (st.put d v) β (a.put (some d) (v.den β)) w := by
  obtain ⟨h1, h2, h3, h4⟩ := hs
  refine ⟨h1, by simp [Act.put, St.put, h2], fun s u hu => ?_, h4⟩
  have hu' : get ((d, v) :: st.fr) s = some u := hu
  rw [get_cons] at hu'
  by_cases e : d = s
  · rw [if_pos e] at hu'
    cases hu'
    subst e
    refine ⟨?_, hv⟩
    simp only [Act.put, Array.getD_eq_getD_getElem?, Array.getElem?_setIfInBounds]
    simp [h2, hd]
  · rw [if_neg e] at hu'
    obtain ⟨k1, k2⟩ := h3 s u hu'
    refine ⟨?_, k2⟩
    rw [← k1]
    simp only [Act.put, Array.getD_eq_getD_getElem?, Array.getElem?_setIfInBounds]
    rw [if_neg e]
theorem putD_sound (hs : Sat base w0 st β a w) {d : Option Nat} {v : SV} (hv : v.ok st.next) {K : St → Prop} (h : putD d v st K) : ∃ st', K st' ∧ Sat base w0 st' β (a.put d (v.den β)) w := by
  cases d with
  | none => exact h.elim
  | some d =>
    obtain ⟨fr, rows, nx, n⟩ := st
    simp only [putD] at h
    cases hb : Nat.blt d n with
    | false => rw [hb] at h; exact h.elim
    | true =>
      rw [hb] at h
      exact ⟨_, h, hs.put (d := d) (by simpa [Nat.blt_eq] using hb) hv⟩
theorem forceL_eq : ∀ (l : List SV) (K : List SV → Prop), forceL l K → K l
  | [], _, h => h
  | v :: r, K, h => forceL_eq r (fun r' => K (v :: r')) h
theorem forceL_mk : ∀ (l : List SV) (K : List SV → Prop), K l → forceL l K
  | [], _, h => h
  | v :: r, K, h => forceL_mk r (fun r' => K (v :: r')) h
theorem env_get {P : Program} : ∀ {E : Env} (_ : EnvOK P E) {t : Nat} {ti : TI}, get E t = some ti → TIok P t ti
  | [], _, _, _, h => by simp [get] at h
  | (u, tj) :: r, hE, t, ti, h => by
    rw [get_cons] at h
    by_cases e : u = t
    · rw [if_pos e] at h; cases h; subst e; exact hE.1
    · rw [if_neg e] at h; exact env_get hE.2 h
theorem env_mixed {P : Program} : ∀ {E : Env}, EnvOK P E → P.follows .mixedOrders = true
  | [], h => h
  | _ :: _, h => env_mixed h.2
/-- what a step of the walk owes -/
def Step (C : Ctx) (o : Oper) (a : Act) (w : World) (K : St → Prop) : Prop :=
  ∃ st' β' a' w', K st' ∧ Sat C.base C.w0 st' β' a' w' ∧ ∀ next Q, next a' w' → o.wp C.P a w next Q
theorem step_value {C : Ctx} {o : Oper} {v : SV} {K : St → Prop} (hs : Sat C.base C.w0 st β a w) (hv : v.ok st.next) (hr : (execOp a.eval o).run C.P w = .ok (.value (v.den β)) w) (h : putD o.dst v st K) : Step C o a w K := by
  obtain ⟨st', hK, hs'⟩ := putD_sound hs hv h
  exact ⟨st', β, _, w, hK, hs', fun next Q hn => by unfold Oper.wp; rw [hr]; exact hn⟩

theorem RowIs_ext {β' : Nat → Nat} {n : Nat} {w : World} {b : Nat} {r : SRow} (hb : ∀ i, i < n → β' i = β i) (hr : r.ok n) (h : RowIs w β b r) : RowIs w β' b r := by
  cases r with
  | cells t cs => simp only [RowIs] at h ⊢; rw [SV.dens_ext hb cs hr]; exact h
  | blob Φ => exact h
theorem RowIs_alloc {w : World} {b : Nat} {r : SRow} (h : RowIs w β b r) (o : Obj) : RowIs (w.alloc o) β b r := by
  cases r with
  | cells t cs => exact Row.alloc h o
  | blob Φ =>
    obtain ⟨h1, h2⟩ := h
    have : (w.alloc o).heap[b]? = w.heap[b]? := Below.heap_alloc _ _ _ h1
    exact ⟨by simp; omega, by rw [this]; exact h2⟩
/-- a new block -/
theorem Sat.alloc (hs : Sat base w0 st β a w) {r : SRow} (hr : r.ok st.next) (o : Obj) (hn : ∀ β', (∀ i, i < st.next → β' i = β i) → RowIs (w.alloc o) β' w.heap.size r) {fr : List (Nat × SV)} {rows : List (Nat × Bool × SRow)} {nx n : Nat} (e : st = ⟨fr, rows, nx, n⟩) :
    Sat base w0 ⟨fr, (nx, true, r) :: rows, nx + 1, n⟩ (fun i => if i = nx then w.heap.size else β i) a (w.alloc o) := by
  subst e
  obtain ⟨h1, h2, h3, h4⟩ := hs
  have hb : ∀ i, i < nx → (fun i => if i = nx then w.heap.size else β i) i = β i := fun i hi => by dsimp only; rw [if_neg (by omega)]
  have hsz : (w.alloc o).heap.size = w.heap.size + 1 := by simp
  refine ⟨h1, h2, fun s v hv => ?_, ?_⟩
  · obtain ⟨k1, k2⟩ := h3 s v hv
    exact ⟨by rw [k1, SV.den_ext hb v k2], SV.ok_mono (Nat.le_succ _) v k2⟩
  · refine ⟨h4.below.alloc h4.base_le o, by have := h4.base_le; omega, fun i ow r' hi => ?_, fun i hi => ?_, fun i j r' oj rj hi hj hji => ?_, Nat.le_trans h4.n0 (Nat.le_succ _), fun i hi => by have := h4.n0; have e : ¬ i = nx := (by have h5 : w0.n0 ≤ nx := h4.n0; omega); rw [if_neg e]; exact h4.ext i hi, h4.pr.step (fun b h _ => ⟨by omega, Below.heap_alloc _ _ _ h⟩) fun i r hi => ?_⟩
    · rw [get_cons] at hi
      by_cases e : nx = i
      · rw [if_pos e] at hi
        cases hi
        subst e
        dsimp only
        rw [if_pos rfl]
        refine ⟨hn _ hb, ?_, by omega, fun _ => h4.base_le⟩
        cases r with
        | cells t cs => exact SV.oks_mono (Nat.le_succ _) cs hr
        | blob Φ => trivial
      · rw [if_neg e] at hi
        obtain ⟨k1, k2, k3, k4⟩ := h4.row i ow r' hi
        have k3 : i < nx := k3
        dsimp only
        rw [if_neg (by omega)]
        refine ⟨RowIs_ext hb k2 (RowIs_alloc k1 o), ?_, by omega, k4⟩
        cases r' with
        | cells t cs => exact SV.oks_mono (Nat.le_succ _) cs k2
        | blob Φ => trivial
    · have hi : i < nx + 1 := hi
      by_cases e : i = nx
      · rw [if_pos e]; omega
      · rw [if_neg e]; have := h4.lt i (show i < nx by omega); omega
    · rw [get_cons] at hi hj
      by_cases e : nx = i
      · rw [if_pos e.symm, if_neg (by omega)]
        rw [if_neg (by omega)] at hj
        have := h4.lt j (h4.row j oj rj hj).2.2.1; omega
      · rw [if_neg e] at hi
        have h3 : i < nx := (h4.row i true r' hi).2.2.1
        rw [if_neg (by omega : ¬ i = nx)]
        by_cases ej : j = nx
        · rw [if_pos ej]; have := h4.lt i h3; omega
        · rw [if_neg ej]; rw [if_neg (by omega)] at hj; exact h4.inj i j r' oj rj hi hj hji
    · rw [get_cons] at hi
      by_cases e : nx = i
      · exact .inr (by rw [if_pos e.symm]; exact Nat.le_refl _)
      · rw [if_neg e] at hi
        exact .inl ⟨i, r, hi, by rw [if_neg (fun e' => e e'.symm)]⟩
theorem step_new {C : Ctx} {o : Oper} {t : TypeId} {cs : List SV} {K : St → Prop} {fr : List (Nat × SV)} {rows : List (Nat × Bool × SRow)} {nx n : Nat} (hs : Sat C.base C.w0 ⟨fr, rows, nx, n⟩ β a w) (hc : SV.oks nx cs)
    (hr : (execOp a.eval o).run C.P w = .ok (.value (.pointer (some ⟨w.heap.size, 0, none⟩))) (w.alloc (.cells (SV.dens β cs).toArray t)))
    (h : putD o.dst (.ptr nx 0) ⟨fr, (nx, true, .cells t cs) :: rows, nx + 1, n⟩ K) : Step C o a w K := by
  have hs2 := hs.alloc (r := .cells t cs) hc (.cells (SV.dens β cs).toArray t) (fun β' hb => by
    simp only [RowIs]; rw [SV.dens_ext hb cs hc]; exact Row.new _ _ _) rfl
  obtain ⟨st', hK, hs'⟩ := putD_sound hs2 (v := .ptr nx 0) (Nat.lt_succ_self nx) h
  refine ⟨st', _, _, _, hK, hs', fun next Q hn => ?_⟩
  unfold Oper.wp
  rw [hr]
  simp only [SV.den, if_true] at hn
  exact hn
theorem add_at (b o i : Nat) : (⟨b, o, none⟩ : Addr).add i = ⟨b, o + i, none⟩ := by unfold Addr.add; split <;> simp_all
/-- what a reading step asks of the world -/
structure MemL (base : Nat) (w0 : Base) (rows : List (Nat × Bool × SRow)) (β : Nat → Nat) (w : World) : Prop where
  below : Below base w0.w w
  row : ∀ i o r, get rows i = some (o, r) → RowIs w β (β i) r
theorem Mem.l {base : Nat} {w0 : Base} {rows : List (Nat × Bool × SRow)} {nx : Nat} {w : World} (h : Mem base w0 rows nx β w) : MemL base w0 rows β w := ⟨h.below, fun i o r hi => (h.row i o r hi).1⟩
theorem loadV_sound {C : Ctx} (hE : EnvOK C.P C.E) (hs : Mem C.base C.w0 st.rows st.next β w) {t i off : Nat} {K : SV → Prop} (h : loadV C.E st.rows t i off K) :
    ∃ v, K v ∧ v.ok st.next ∧ ∀ w, MemL C.base C.w0 st.rows β w → (loadVar t ⟨β i, off, none⟩).run C.P w = .ok (v.den β) w := by
  unfold loadV at h
  cases hi : get st.rows i with
  | none => simp only [hi] at h
  | some p =>
    obtain ⟨ow, r⟩ := p
    cases r with
    | blob Φ => simp only [hi] at h
    | cells t' cs =>
      cases ht : get C.E t with
      | none => simp only [hi, ht] at h
      | some ti =>
        obtain ⟨k, sz, ag, z⟩ := ti
        simp only [hi, ht] at h
        have ht' := env_get hE ht
        have hok : SV.oks st.next cs := (hs.row i ow _ hi).2.1
        cases ag with
        | true =>
          simp only at h
          cases hb : Nat.ble (off + sz) cs.length with
          | false => rw [hb] at h; exact h.elim
          | true =>
            rw [hb] at h
            have hle : off + sz ≤ cs.length := Nat.le_of_ble_eq_true hb
            refine ⟨_, forceL_eq _ _ h, SV.oks_take _ _ (SV.oks_drop _ _ hok), fun w hw => ?_⟩
            have hr : Row w (β i) t' (SV.dens β cs).toArray := hw.row i ow _ hi
            have hl : (loadCells ⟨β i, off, none⟩ sz).run C.P w = .ok (SV.dens β ((cs.drop off).take sz)).toArray w := by
              have := run_loadCells_list (P := C.P) w ⟨β i, off, none⟩ (SV.dens β ((cs.drop off).take sz)) (fun j v hj => by
                rw [add_at, hr.cell]
                rw [SV.dens_take, SV.dens_drop, List.getElem?_take] at hj
                split at hj
                · rw [List.getElem?_drop] at hj; simpa using hj
                · cases hj)
              rw [SV.dens_len] at this
              rwa [show (List.take sz (List.drop off cs)).length = sz by simp; omega] at this
            simp only [loadVar, Sem.run_bind, ht'.agg, ht'.size, Result.andThen_ok, if_true, hl, Sem.run_pure, SV.den]
        | false =>
          simp only at h
          cases hc : cs[off]? with
          | none => rw [hc] at h; exact h.elim
          | some v =>
            rw [hc] at h
            refine ⟨v, h, SV.oks_get cs off v hok hc, fun w hw => ?_⟩
            have hr : Row w (β i) t' (SV.dens β cs).toArray := hw.row i ow _ hi
            have : w.cell? ⟨β i, off, none⟩ = some (v.den β) := by
              rw [hr.cell]; simp [SV.dens_get, hc]
            simp [loadVar, ht'.agg, this]
theorem cells_sound {v : SV} {cs : List SV} {n : Nat} (h : cellsSV v = some cs) (hv : v.ok n) : (v.den β).cells = (SV.dens β cs).toArray ∧ SV.oks n cs := by
  cases v with
  | agg l => cases h; exact ⟨rfl, hv⟩
  | any u => cases h; refine ⟨?_, hv, trivial⟩; cases u <;> first | rfl | cases hv
  | _ => cases h; exact ⟨rfl, hv, trivial⟩
theorem one_sound {v : SV} {n : Nat} (h : v.one = true) (hv : v.ok n) : (v.den β).oneCell' = true := by
  cases v <;> first | rfl | exact hv | cases h
theorem allOne_sound : ∀ {vs : List SV} {n : Nat}, allOne vs = true → SV.oks n vs → ∀ v ∈ SV.dens β vs, v.oneCell' = true
  | [], _, _, _, v, hv => by simp [SV.dens] at hv
  | u :: r, n, h, k, v, hv => by
    simp only [allOne] at h
    cases hu : u.one with
    | false => rw [hu] at h; cases h
    | true =>
      rw [hu] at h
      simp only [SV.dens, List.mem_cons] at hv
      rcases hv with rfl | hv
      · exact one_sound hu k.1
      · exact allOne_sound h k.2 v hv

theorem setRow_other {w : World} {g k : Nat} (cs : Array Value) (h : k ≠ g) : (w.setRow g cs).heap[k]? = w.heap[k]? := by
  simp only [World.setRow, Array.getElem?_modify]
  rw [if_neg (fun e => h e.symm)]
theorem setRow_size {w : World} {g : Nat} (cs : Array Value) : (w.setRow g cs).heap.size = w.heap.size := by
  simp [World.setRow]
theorem splice_ok {n : Nat} {cs vs : List SV} {off : Nat} (h : SV.oks n cs) (k : SV.oks n vs) : SV.oks n (splice cs off vs) :=
  SV.oks_append _ _ (SV.oks_take _ _ h) (SV.oks_append _ _ k (SV.oks_drop _ _ h))
theorem Sat.setRow {i : Nat} {t : TypeId} {cs cs' : List SV} {fr : List (Nat × SV)} {rows : List (Nat × Bool × SRow)} {nx n : Nat} (hs : Sat base w0 ⟨fr, rows, nx, n⟩ β a w) (hi : get rows i = some (true, .cells t cs)) (hc : SV.oks nx cs') :
    Sat base w0 ⟨fr, (i, true, .cells t cs') :: rows, nx, n⟩ β a (w.setRow (β i) (SV.dens β cs').toArray) := by
  obtain ⟨h1, h2, h3, h4⟩ := hs
  obtain ⟨k1, k2, k3, k4⟩ := h4.row i true _ hi
  have k3 : i < nx := k3
  have k4 := k4 rfl
  refine ⟨h1, h2, h3, ?_⟩
  refine ⟨h4.below.trans ⟨rfl, rfl, rfl, by rw [setRow_size]; exact Nat.le_refl _, fun k hk => setRow_other _ (by omega)⟩, by rw [setRow_size]; exact h4.base_le, fun j ow r hj => ?_, fun j hj => by rw [setRow_size]; exact h4.lt j hj, fun j l r ol rl hj hl hlj => ?_, h4.n0, h4.ext, h4.pr.write hi (setRow_size _) (fun b hb => setRow_other _ hb)⟩
  · rw [get_cons] at hj
    by_cases e : i = j
    · rw [if_pos e] at hj
      cases hj
      subst e
      refine ⟨?_, hc, k3, fun _ => k4⟩
      simp only [RowIs] at k1 ⊢
      exact setRow_heap w _ _ _ _ _ k1
    · rw [if_neg e] at hj
      obtain ⟨m1, m2, m3, m4⟩ := h4.row j ow r hj
      have m3 : j < nx := m3
      have hne : β j ≠ β i := h4.inj i j _ ow r hi hj (fun e' => e e'.symm)
      refine ⟨?_, m2, m3, m4⟩
      cases r with
      | cells t2 c2 =>
        simp only [RowIs] at m1 ⊢
        unfold Row at m1 ⊢
        rw [setRow_other _ hne]; exact m1
      | blob Φ =>
        obtain ⟨q1, q2⟩ := m1
        exact ⟨by rw [setRow_size]; exact q1, by rw [setRow_other _ hne]; exact q2⟩
  · have hj' : ∃ r0, get rows j = some (true, r0) := by
      rw [get_cons] at hj
      by_cases e : i = j
      · subst e; exact ⟨_, hi⟩
      · rw [if_neg e] at hj; exact ⟨_, hj⟩
    have hl' : ∃ o0 r0, get rows l = some (o0, r0) := by
      rw [get_cons] at hl
      by_cases e : i = l
      · subst e; exact ⟨_, _, hi⟩
      · rw [if_neg e] at hl; exact ⟨_, _, hl⟩
    obtain ⟨r0, hj'⟩ := hj'
    obtain ⟨o1, r1, hl'⟩ := hl'
    exact h4.inj j l r0 o1 r1 hj' hl' hlj
theorem step_store {C : Ctx} (hE : EnvOK C.P C.E) {o : Oper} {t : TypeId} {x y : Operand} {i off sz : Nat} {v : SV} {vs : List SV} {t' : TypeId} {cs : List SV} {kd : TK} {ag : Bool} {z : List SV} {K : St → Prop} {fr : List (Nat × SV)} {rows : List (Nat × Bool × SRow)} {nx n : Nat}
    (hs : Sat C.base C.w0 ⟨fr, rows, nx, n⟩ β a w) (hop : o.op = .store t x y) (hd : o.dst = none) (hx : ev fr x = some (.ptr i off)) (hy : ev fr y = some v) (ht : get C.E t = some ⟨kd, sz, ag, z⟩)
    (hv : cellsSV v = some vs) (hi : get rows i = some (true, .cells t' cs)) (hl : vs.length = sz) (hle : off + sz ≤ cs.length) (h1 : allOne vs = true)
    (h : K ⟨fr, (i, true, .cells t' (splice cs off vs)) :: rows, nx, n⟩) : Step C o a w K := by
  have ht' := env_get hE ht
  obtain ⟨ex, _⟩ := ev_sound hs hx
  obtain ⟨ey, oy⟩ := ev_sound hs hy
  obtain ⟨ec, oc⟩ := cells_sound (β := β) hv oy
  obtain ⟨k1, k2, k3, k4⟩ := hs.mem.row i true _ hi
  simp only [RowIs] at k1
  refine ⟨_, β, a, _, h, hs.setRow hi (splice_ok k2 oc), fun next Q hn => ?_⟩
  have hst := run_storeCells_at (P := C.P) (β i) off t' (SV.dens β vs) 0 _ w k1 (by simp [SV.dens_len]; omega) (allOne_sound h1 oc)
  have hst2 : (storeVar t ⟨β i, off, none⟩ (v.den β)).run C.P w = .ok () (w.setRow (β i) (SV.dens β (splice cs off vs)).toArray) := by
    simp only [storeVar, Sem.run_bind, ht'.size, Result.andThen_ok, ec]
    rw [if_neg (by simp [SV.dens_len, hl])]
    rw [hst]
    congr 2
    unfold splice
    rw [SV.dens_append, SV.dens_append, SV.dens_take, SV.dens_drop]
    simp [SV.dens_len]
  unfold Oper.wp
  have : (execOp a.eval o).run C.P w = .ok .skip (w.setRow (β i) (SV.dens β (splice cs off vs)).toArray) := by
    simp [execOp, hop, Instr.storeAt, ex, ey, SV.den, Instr.sureAddr, hst2]
  rw [this]
  show next (a.put o.dst undef) _
  rw [hd]
  exact hn

theorem guard_run {P : Program} {op : BinOp} {t : TypeId} {x y : Operand} {u v : SV} (h : ∀ cs, u ≠ .agg cs) (hn : ∀ x, u ≠ .any x) (w : World) : (eqGuard op t x y (u.den β) (v.den β)).run P w = .ok () w := by
  unfold eqGuard
  cases u with
  | agg cs => exact (h cs rfl).elim
  | any x => exact (hn x rfl).elim
  | _ => simp only [SV.den]; cases op <;> simp
theorem evBin_sound {P : Program} {op : BinOp} {t : TypeId} {u v : SV} {n : Nat} {K : SV → Prop} (h : evBin op u v K) : ∃ r, K r ∧ r.ok n ∧ (∀ cs, u ≠ .agg cs) ∧ (∀ x, u ≠ .any x) ∧ ∀ w, (binOp op t (u.den β) (v.den β)).run P w = .ok (r.den β) w := by
  cases u with
  | int k x =>
    cases v with
    | int k' y =>
      simp only [evBin] at h
      cases hk : ikEq k k' with
      | false => rw [hk] at h; exact h.elim
      | true =>
        rw [hk] at h
        obtain rfl := ikEq_eq hk
        have hw : ∀ n, inK k n → k.wrap n = n := fun n => inK_wrap
        cases op <;> simp only [arith, cond_true] at h <;> first
          | exact h.elim
          | exact ⟨_, h.2, trivial, fun _ => SV.noConfusion, fun _ => SV.noConfusion, fun w => by simp [SV.den, binOp, Op.intArith, hw _ h.1]⟩
          | exact ⟨_, h, trivial, fun _ => SV.noConfusion, fun _ => SV.noConfusion, fun w => by simp [SV.den, binOp, Op.intCmp] <;> first | rfl | (rw [Bool.eq_iff_iff]; simp)⟩
    | _ => exact h.elim
  | str x =>
    cases v with
    | str y =>
      cases op <;> simp only [evBin] at h <;> first
          | exact h.elim
          | exact ⟨_, h.2, trivial, fun _ => SV.noConfusion, fun _ => SV.noConfusion, fun w => by
              have h1 := h.1
              have hn : ¬ (((bstr x).size + (bstr y).size : Nat) : Int) > IntKind.i64.max := by rw [bstr_size, bstr_size]; simp [IntKind.max, IntKind.signed, IntKind.bits]; omega
              simp only [SV.den, binOp, Op.stringOp]
              rw [if_neg hn, bstr_app]; rfl⟩
          | exact ⟨_, h, trivial, fun _ => SV.noConfusion, fun _ => SV.noConfusion, fun w => by simp [SV.den, binOp, Op.stringOp, bstr_list] <;> first | rfl | (rw [Bool.eq_iff_iff]; simp)⟩
    | _ => exact h.elim
  | _ => exact h.elim
theorem foldl_set (off : Nat) : ∀ (vs : List Value) (m : Nat) (cs : Array Value), off + m + vs.length ≤ cs.size →
    (vs.zipIdx m).foldl (fun cs p => cs.setIfInBounds (off + p.2) p.1) cs = (cs.toList.take (off + m) ++ vs ++ cs.toList.drop (off + m + vs.length)).toArray
  | [], m, cs, _ => by simp
  | v :: r, m, cs, h => by
    simp only [List.zipIdx_cons, List.foldl_cons]
    rw [foldl_set off r (m + 1) _ (by simp at h ⊢; omega)]
    have e := list_seg_step cs.toList (off + m) v r (by simp at h ⊢; omega)
    congr 1
    simpa [Array.toList_setIfInBounds, Nat.add_assoc] using e
theorem fill_sound {n : Nat} (pl : List (Nat × Nat)) : ∀ (ps : List (Nat × SV)) (cs cs' : List SV), fillS pl cs ps = some cs' → SV.oks n cs → (∀ p ∈ ps, p.2.ok n) →
    Instr.fill (pl.toArray[·]?) (SV.dens β cs).toArray (ps.map fun p => (p.1, p.2.den β)) = some (SV.dens β cs').toArray ∧ SV.oks n cs'
  | [], cs, cs', h, hc, _ => by simp only [fillS] at h; cases h; exact ⟨rfl, hc⟩
  | (i, v) :: r, cs, cs', h, hc, hp => by
    simp only [fillS] at h
    cases hi : pl[i]? with
    | none => simp only [hi] at h; cases h
    | some q =>
      obtain ⟨off, sz⟩ := q
      cases hv : cellsSV v with
      | none => simp only [hi, hv] at h; cases h
      | some vs =>
        simp only [hi, hv] at h
        cases hb : Nat.beq vs.length sz && Nat.ble (off + vs.length) cs.length with
        | false => rw [hb] at h; cases h
        | true =>
          rw [hb] at h
          simp only [Bool.and_eq_true] at hb
          have e1 : vs.length = sz := Nat.eq_of_beq_eq_true hb.1
          have e2 : off + vs.length ≤ cs.length := Nat.le_of_ble_eq_true hb.2
          obtain ⟨ec, oc⟩ := cells_sound (β := β) hv (hp (i, v) (by simp))
          have ih := fill_sound pl r _ _ h (splice_ok hc oc) (fun p hp' => hp p (by simp [hp']))
          refine ⟨?_, ih.2⟩
          rw [← ih.1]
          simp only [List.map_cons, Instr.fill, List.getElem?_toArray, hi, ec]
          rw [if_neg (by simp [SV.dens_len, e1]; omega)]
          congr 1
          have := foldl_set off (SV.dens β vs) 0 (SV.dens β cs).toArray (by simp [SV.dens_len]; omega)
          rw [← Array.foldl_toList, Array.toList_zipIdx]
          simp only [Nat.add_zero] at this
          refine this.trans ?_
          unfold splice
          rw [SV.dens_append, SV.dens_append, SV.dens_take, SV.dens_drop]
          simp [SV.dens_len]
theorem sizes_sound {P : Program} {E : Env} (hE : EnvOK P E) (w : World) : ∀ (fs : List Field) (pl : List (Nat × Nat)), sizesOf E (fs.map fun f => (f.offset, f.type)) = some pl →
    (fs.mapM fun (f : Field) => do pure (f.offset, ← sizeOf f.type) : Sem (List (Nat × Nat))).run P w = .ok pl w
  | [], pl, h => by simp only [List.map_nil, sizesOf] at h; cases h; rfl
  | f :: r, pl, h => by
    simp only [List.map_cons, sizesOf] at h
    cases ht : get E f.type with
    | none => rw [ht] at h; cases h
    | some ti =>
      obtain ⟨kd, sz, ag, z⟩ := ti
      rw [ht] at h
      cases hr : sizesOf E (r.map fun f => (f.offset, f.type)) with
      | none => simp only [hr] at h; cases h
      | some l =>
        simp only [hr] at h
        cases h
        have ih := sizes_sound hE w r l hr
        simp only [List.mapM_cons, Sem.run_bind, (env_get hE ht).size, Result.andThen_ok, Sem.run_pure, ih]
theorem parts_sound (hs : Sat base w0 st β a w) : ∀ (ps : List (Nat × Operand)) (K : List (Nat × SV) → Prop), evParts st.fr ps K → ∃ vs, K vs ∧ (∀ p ∈ vs, p.2.ok st.next) ∧ (ps.map fun (i, x) => (i, a.eval x)) = vs.map fun p => (p.1, p.2.den β)
  | [], K, h => ⟨[], h, by simp, rfl⟩
  | (i, x) :: r, K, h => by
    simp only [evParts] at h
    cases hx : ev st.fr x with
    | none => rw [hx] at h; exact h.elim
    | some v =>
      rw [hx] at h
      obtain ⟨vs, hK, ho, e⟩ := parts_sound hs r _ h
      obtain ⟨e1, o1⟩ := ev_sound hs hx
      exact ⟨_, hK, by simp; exact ⟨o1, fun a b h => ho (a, b) h⟩, by simp only [List.map_cons, e, e1]⟩
theorem build_sound {C : Ctx} (hE : EnvOK C.P C.E) {o : Oper} {t : TypeId} {ps : List (Nat × Operand)} {flds : List (Nat × TypeId)} {sz : Nat} {ag : Bool} {z : List SV} {vs : List (Nat × SV)} {pl : List (Nat × Nat)} {cs : List SV}
    (hop : o.op = .build t ⟨ps⟩) (ht : get C.E t = some ⟨.struct flds, sz, ag, z⟩) (hv : ∀ p ∈ vs, p.2.ok st.next) (he : (ps.map fun (i, x) => (i, a.eval x)) = vs.map fun p => (p.1, p.2.den β))
    (hp : sizesOf C.E flds = some pl) (hf : fillS pl z vs = some cs) : (execOp a.eval o).run C.P w = .ok (.value ((SV.agg cs).den β)) w ∧ (SV.agg cs).ok st.next := by
  have ht' := env_get hE ht
  obtain ⟨fs, hu, hfl⟩ := ht'.und
  obtain ⟨zv, hz1, hz2, hz3⟩ := ht'.zero w
  rw [← hfl] at hp
  have hm := sizes_sound hE w _ _ hp
  obtain ⟨f1, f2⟩ := fill_sound (β := β) pl vs z cs hf (SV.oks_mono (Nat.zero_le _) z hz3) hv
  refine ⟨?_, f2⟩
  have hm2 : (fs.mapM fun (f : Field) => do pure (f.offset, ← sizeOf f.type) : Sem (Array (Nat × Nat))).run C.P w = .ok pl.toArray w := by
    rw [Array.mapM_eq_mapM_toList]
    simp only [Sem.run_map, hm, Result.andThen_ok]
  have hps : ((⟨ps⟩ : Array (Nat × Operand)).map fun (i, x) => (i, a.eval x)).toList = vs.map fun p => (p.1, p.2.den β) := by
    rw [Array.toList_map]; exact he
  have hu2 : (underlying t).run C.P w = .ok (.struct fs) w := by simp [underlying, hu]
  simp only [execOp, hop, Sem.run_bind, Instr.build, hz1, Result.andThen_ok, hu2, hm2, hps, hz2 β, f1, Sem.run_pure, SV.den]
theorem field_sound {C : Ctx} (hE : EnvOK C.P C.E) {o : Oper} {t : TypeId} {x : Operand} {f i off of : Nat} {ft : TypeId} {flds : List (Nat × TypeId)} {sz : Nat} {ag : Bool} {z : List SV} {ti : TI}
    (hop : o.op = .fieldAddr t x f) (ht : get C.E t = some ⟨.struct flds, sz, ag, z⟩) (hx : a.eval x = .pointer (some ⟨β i, off, none⟩)) (hf : flds[f]? = some (of, ft)) (hft : get C.E ft = some ti) (h0 : Nat.beq ti.size 0 = false) :
    (execOp a.eval o).run C.P w = .ok (.value ((SV.ptr i (off + of)).den β)) w := by
  have ht' := env_get hE ht
  obtain ⟨fs, hu, hfl⟩ := ht'.und
  have hu2 : (underlying t).run C.P w = .ok (.struct fs) w := by simp [underlying, hu]
  rw [← hfl] at hf
  simp only [List.getElem?_map, Option.map_eq_some_iff] at hf
  obtain ⟨fd, hfd, e⟩ := hf
  cases e
  have hfd2 : fs[f]? = some fd := by rw [← Array.getElem?_toList]; exact hfd
  have hne : ti.size ≠ 0 := fun e => by rw [e] at h0; cases h0
  simp only [execOp, hop, Sem.run_bind, Instr.fieldAt, hu2, Result.andThen_ok, hfd2, hx, Instr.sureAddr, Sem.run_pure, fieldPlace, (env_get hE hft).size, Sem.run_ite, SV.den]
  rw [if_neg hne, add_at]
  rfl
theorem index_sound {C : Ctx} (hE : EnvOK C.P C.E) {o : Oper} {t : TypeId} {x y : Operand} {s : List UInt8} {k : IntKind} {j : Nat} {sz : Nat} {ag : Bool} {z : List SV}
    (hop : o.op = .index t x y) (ht : get C.E t = some ⟨.str, sz, ag, z⟩) (hx : a.eval x = .string (bstr s)) (hy : a.eval y = .int k (j : Int)) (hj : j < s.length) :
    (execOp a.eval o).run C.P w = .ok (.value ((SV.int .u8 ((s.getD j 0).toNat : Int)).den β)) w := by
  have hu : C.P.underlying t = some .string := (env_get hE ht).und
  have hu2 : (underlying t).run C.P w = .ok .string w := by simp [underlying, hu]
  have hb : (bstr s)[j]? = some (s.getD j 0) := by
    rw [getElem?_pos (bstr s) j (by rw [bstr_size]; exact hj), bstr_at]
  simp only [execOp, hop, Sem.run_bind, Instr.index, hx, hy, asIntOf, Sem.run_pure, Result.andThen_ok, hu2]
  rw [if_pos (by omega)]
  simp [hb, SV.den]
theorem len_sound {C : Ctx} (hE : EnvOK C.P C.E) {o : Oper} {t : TypeId} {x : Operand} {s : List UInt8} {sz : Nat} {ag : Bool} {z : List SV}
    (hop : o.op = .call ⟨.builtin .len, ⟨[x]⟩, ⟨[t]⟩⟩) (ht : get C.E t = some ⟨.str, sz, ag, z⟩) (hx : a.eval x = .string (bstr s)) :
    (execOp a.eval o).run C.P w = .ok (.value ((SV.int .i64 (s.length : Int)).den β)) w := by
  have hu : C.P.underlying t = some .string := (env_get hE ht).und
  have hu2 : (underlying t).run C.P w = .ok .string w := by simp [underlying, hu]
  simp [execOp, hop, resolve, invoke, builtin, Builtin.len_, hx, hu2, goInt, SV.den, bstr_size]
theorem bounds_sound (w : World) (P : Program) {s : List UInt8} {k : IntKind} {l : Nat} {c : BoundsCode} {y : Nat} (h : l ≤ y) : (Instr.sliceBound (.int k (l : Int)) y c).run P w = .ok l w := by
  simp only [Instr.sliceBound, asIntOf, Sem.run_bind, Sem.run_pure, Result.andThen_ok]
  rw [if_pos (by omega)]
  simp
theorem slice_sound {C : Ctx} (hE : EnvOK C.P C.E) {t : TypeId} {s : List UInt8} {sz : Nat} {ag : Bool} {z : List SV} (ht : get C.E t = some ⟨.str, sz, ag, z⟩) (w : World) :
    (Instr.sliceAt t (.string (bstr s)) none none none).run C.P w = .ok (.string (bstr s)) w ∧
    (∀ (k : IntKind) (l : Nat), l ≤ s.length → (Instr.sliceAt t (.string (bstr s)) (some (.int k (l : Int))) none none).run C.P w = .ok (.string (bstr (s.drop l))) w) ∧
    (∀ (k : IntKind) (h : Nat), h ≤ s.length → (Instr.sliceAt t (.string (bstr s)) none (some (.int k (h : Int))) none).run C.P w = .ok (.string (bstr (s.take h))) w) ∧
    (∀ (k k' : IntKind) (l h : Nat), l ≤ h → h ≤ s.length → (Instr.sliceAt t (.string (bstr s)) (some (.int k (l : Int))) (some (.int k' (h : Int))) none).run C.P w = .ok (.string (bstr ((s.take h).drop l))) w) := by
  have hu : C.P.underlying t = some .string := (env_get hE ht).und
  have hu2 : (underlying t).run C.P w = .ok .string w := by simp [underlying, hu]
  refine ⟨?_, fun k l hl => ?_, fun k h hh => ?_, fun k k' l h hl hh => ?_⟩
  · simp [Instr.sliceAt, hu2, Instr.slice, Instr.sliceBounds, bstr_size, bstr_ext]
  · have := bounds_sound w C.P (s := s) (k := k) (c := .sliceB) hl
    simp [Instr.sliceAt, hu2, Instr.slice, Instr.sliceBounds, bstr_size, this, bstr_ext]
  · have := bounds_sound w C.P (s := s) (k := k) (c := .sliceAlen) hh
    simp [Instr.sliceAt, hu2, Instr.slice, Instr.sliceBounds, bstr_size, this, bstr_ext]
  · have h1 := bounds_sound w C.P (s := s) (k := k') (c := .sliceAlen) hh
    have h2 := bounds_sound w C.P (s := s) (k := k) (c := .sliceB) hl
    simp [Instr.sliceAt, hu2, Instr.slice, Instr.sliceBounds, bstr_size, h1, h2, bstr_ext]
/-- what a reading step owes -/
def StepV (C : Ctx) (st : St) (β : Nat → Nat) (o : Oper) (a : Act) (K : SV → Prop) : Prop :=
  ∃ v, K v ∧ v.ok st.next ∧ ∀ w, MemL C.base C.w0 st.rows β w → (execOp a.eval o).run C.P w = .ok (.value (v.den β)) w
theorem evVal0_sound {C : Ctx} (hE : EnvOK C.P C.E) {o : Oper} {fr : List (Nat × SV)} {rows : List (Nat × Bool × SRow)} {nx n : Nat} {K : SV → Prop} (hs : Sat C.base C.w0 ⟨fr, rows, nx, n⟩ β a w) (h : evVal0 C o.op fr rows K) : StepV C ⟨fr, rows, nx, n⟩ β o a K := by
  obtain ⟨dst, op, ty, pos, after, g⟩ := o
  have hev : ∀ {x : Operand} {v : SV}, ev fr x = some v → a.eval x = v.den β ∧ v.ok nx := fun hx => ev_sound hs hx
  cases op <;> simp only [evVal0] at h
  case move x =>
    cases hx : ev fr x with
    | none => rw [hx] at h; exact h.elim
    | some v =>
      rw [hx] at h
      obtain ⟨e, ok⟩ := hev hx
      exact ⟨_, h, ok, fun w _ => by simp [execOp, e]⟩
  case assign x =>
    cases hx : ev fr x with
    | none => rw [hx] at h; exact h.elim
    | some v =>
      rw [hx] at h
      obtain ⟨e, ok⟩ := hev hx
      exact ⟨_, h, ok, fun w _ => by simp [execOp, e]⟩
  case pick c x y =>
    cases hx : ev fr c with
    | none => rw [hx] at h; exact h.elim
    | some cv =>
      rw [hx] at h
      obtain ⟨b, e1, ht, hf⟩ := br_sound (β := β) h
      have e0 := (ev_sound hs hx).1
      cases b with
      | true =>
        have h2 := ht rfl
        cases hy : ev fr x with
        | none => rw [hy] at h2; exact h2.elim
        | some v =>
          rw [hy] at h2
          obtain ⟨e2, o2⟩ := hev hy
          exact ⟨_, h2, o2, fun w _ => by simp [execOp, e0, e1, e2, asBool]⟩
      | false =>
        have h2 := hf rfl
        cases hy : ev fr y with
        | none => rw [hy] at h2; exact h2.elim
        | some v =>
          rw [hy] at h2
          obtain ⟨e2, o2⟩ := hev hy
          exact ⟨_, h2, o2, fun w _ => by simp [execOp, e0, e1, e2, asBool]⟩
  case build t parts =>
    obtain ⟨ps⟩ := parts
    cases ht : get C.E t with
    | none => simp only [ht] at h
    | some ti =>
      obtain ⟨kd, sz, ag, z⟩ := ti
      cases kd <;> simp only [ht] at h
      case struct flds =>
        obtain ⟨vs, hK, ho, he⟩ := parts_sound hs ps _ h
        cases hp : sizesOf C.E flds with
        | none => simp only [hp] at hK
        | some pl =>
          simp only [hp] at hK
          cases hf : fillS pl z vs with
          | none => simp only [hf] at hK
          | some cs =>
            simp only [hf] at hK
            exact ⟨_, forceL_eq _ _ hK, (build_sound (w := w) (st := ⟨fr, rows, nx, n⟩) hE (o := ⟨dst, .build t ⟨ps⟩, ty, pos, after, g⟩) rfl ht ho he hp hf).2, fun w _ => (build_sound (w := w) (st := ⟨fr, rows, nx, n⟩) hE (o := ⟨dst, .build t ⟨ps⟩, ty, pos, after, g⟩) rfl ht ho he hp hf).1⟩
  case load t x =>
    cases hx : ev fr x with
    | none => rw [hx] at h; exact h.elim
    | some v =>
      rw [hx] at h
      obtain ⟨e, ok⟩ := hev hx
      cases v <;> simp only at h
      case ptr i off =>
        obtain ⟨v, hK, ho, hr⟩ := loadV_sound (st := ⟨fr, rows, nx, n⟩) hE hs.mem h
        exact ⟨v, hK, ho, fun w hm => by simp [execOp, Instr.loadAt, e, SV.den, Instr.sureAddr, hr w hm]⟩
  case fieldAddr t x f =>
    cases hx : ev fr x with
    | none => simp only [hx] at h
    | some u =>
      cases u <;> simp only [hx] at h
      case ptr i off =>
        cases ht : get C.E t with
        | none => simp only [ht] at h
        | some ti =>
          obtain ⟨kd, sz, ag, z⟩ := ti
          cases kd <;> simp only [ht] at h
          case struct flds =>
            cases hf : flds[f]? with
            | none => simp only [hf] at h
            | some q =>
              obtain ⟨of, ft⟩ := q
              simp only [hf] at h
              cases hft : get C.E ft with
              | none => simp only [hft] at h
              | some tj =>
                obtain ⟨kj, sj, aj, zj⟩ := tj
                simp only [hft] at h
                cases h0 : Nat.beq sj 0 with
                | true => rw [h0] at h; exact h.elim
                | false =>
                  rw [h0] at h
                  obtain ⟨e, ok⟩ := hev hx
                  have ok : i < nx := ok
                  exact ⟨.ptr i (off + of), h, ok, fun w _ => field_sound hE rfl ht e hf hft h0⟩
  case binOp op t x y t' =>
    cases hx : ev fr x with
    | none => simp only [hx] at h
    | some u =>
      cases hy : ev fr y with
      | none => simp only [hx, hy] at h
      | some v =>
        have e1 := (hev hx).1
        have e2 := (hev hy).1
        have agg : ∀ us vs, u = .agg us → v = .agg vs → StepV C ⟨fr, rows, nx, n⟩ β ⟨dst, .binOp op t x y t', ty, pos, after, g⟩ a K := fun us vs hu hv => by
          subst hu; subst hv
          simp only [hx, hy] at h
          cases op <;> simp only at h
          case eql =>
            obtain ⟨b, ⟨hg, hq⟩, hK⟩ := h
            exact ⟨_, hK, trivial, fun w _ => by
              have := hq β w
              simp [execOp, e1, e2, SV.den, eqGuard, hg, binOp, this]⟩
          case neq =>
            obtain ⟨b, ⟨hg, hq⟩, hK⟩ := h
            exact ⟨_, hK, trivial, fun w _ => by
              have := hq β w
              simp [execOp, e1, e2, SV.den, eqGuard, hg, binOp, this]⟩
        have h : (∃ us vs, u = .agg us ∧ v = .agg vs) ∨ evBin op u v K := by
          cases u <;> cases v <;> first | exact .inl ⟨_, _, rfl, rfl⟩ | exact .inr (by simpa only [hx, hy] using h)
        rcases h with ⟨us, vs, hu, hv⟩ | h
        · exact agg us vs hu hv
        obtain ⟨r, hK, ho, ha, hn, hr⟩ := evBin_sound (P := C.P) (β := β) (t := t) (n := nx) h
        obtain ⟨e1, _⟩ := hev hx
        obtain ⟨e2, _⟩ := hev hy
        exact ⟨r, hK, ho, fun w _ => by simp [execOp, e1, e2, guard_run ha hn w, hr w]⟩
  case unOp op t x =>
    cases hx : ev fr x with
    | none => cases op <;> simp only [hx] at h
    | some v =>
      have e := (hev hx).1
      clear hev
      cases op <;> cases v <;> simp only [hx] at h
      case not.lit b => exact ⟨.lit (!b), h, trivial, fun w _ => by simp [execOp, e, SV.den, Op.unary]⟩
      case not.bool b => exact ⟨.bool (!b), h, trivial, fun w _ => by simp [execOp, e, SV.den, Op.unary]⟩
      case not.prop p hp => exact ⟨.prop (¬ p) (@instDecidableNot p hp), h, trivial, fun w _ => by simp [execOp, e, SV.den, Op.unary]⟩
      case neg.int k m =>
        exact ⟨.int k (0 - m), h.2, trivial, fun w _ => by
          have := inK_wrap h.1
          simp only [execOp, e, SV.den, Op.unary, Op.intArith, Sem.run_bind, Sem.run_pure, Result.andThen_ok, this]⟩
  case extract x i =>
    cases hx : ev fr x with
    | none => simp only [hx] at h
    | some u =>
      cases u <;> simp only [hx] at h
      case tup vs =>
        cases hi : vs[i]? with
        | none => simp only [hi] at h
        | some v =>
          simp only [hi] at h
          obtain ⟨e, ok⟩ := hev hx
          exact ⟨_, h, SV.oks_get vs i v ok hi, fun w _ => by simp [execOp, e, SV.den, Instr.extract, SV.dens_get, hi]⟩
  case index t x y =>
    cases hx : ev fr x with
    | none => simp only [hx] at h
    | some u =>
      cases u <;> simp only [hx] at h
      case str s =>
        cases hy : ev fr y with
        | none => simp only [hy] at h
        | some v =>
          cases v <;> simp only [hy] at h
          case int k i =>
            cases ht : get C.E t with
            | none => simp only [ht] at h
            | some ti =>
              obtain ⟨kd, sz, ag, z⟩ := ti
              cases kd <;> simp only [ht] at h
              case str =>
                obtain ⟨j, rfl, hj, h⟩ := h
                obtain ⟨e1, _⟩ := hev hx
                obtain ⟨e2, _⟩ := hev hy
                exact ⟨_, h, trivial, fun w _ => index_sound hE rfl ht e1 e2 hj⟩
  case call c =>
    obtain ⟨cal, ⟨args⟩, ⟨tys⟩⟩ := c
    cases cal with
    | builtin b =>
      cases b <;> try exact h.elim
      case len =>
        match args, tys, h with
        | [x], [t], h =>
          simp only at h
          cases hx : ev fr x with
          | none => simp only [hx] at h
          | some u =>
            cases u <;> simp only [hx] at h
            case str s =>
              cases ht : get C.E t with
              | none => simp only [ht] at h
              | some ti =>
                obtain ⟨kd, sz, ag, z⟩ := ti
                cases kd <;> simp only [ht] at h
                case str =>
                  obtain ⟨e1, _⟩ := hev hx
                  exact ⟨_, h, trivial, fun w _ => len_sound hE rfl ht e1⟩
        | [], _, h => exact h.elim
        | _ :: _ :: _, _, h => exact h.elim
        | [_], [], h => exact h.elim
        | [_], _ :: _ :: _, h => exact h.elim
      case max =>
        match args, h with
        | [x, y], h =>
          simp only at h
          cases hx : ev fr x with
          | none => simp only [hx] at h
          | some u =>
            cases u <;> simp only [hx] at h
            case int k m =>
              cases hy : ev fr y with
              | none => simp only [hy] at h
              | some v =>
                cases v <;> simp only [hy] at h
                case int k' m' =>
                  cases hk : ikEq k k' with
                  | false => rw [hk] at h; exact h.elim
                  | true =>
                    rw [hk] at h
                    have e1 := (hev hx).1
                    have e2 := (hev hy).1
                    exact ⟨_, h, trivial, fun w _ => by
                      have : (if m' > m then m' else m) = max m m' := by split <;> omega
                      simp [execOp, resolve, invoke, builtin, Builtin.max_, Builtin.max2, e1, e2, SV.den, this]⟩
      case min =>
        match args, h with
        | [x, y], h =>
          simp only at h
          cases hx : ev fr x with
          | none => simp only [hx] at h
          | some u =>
            cases u <;> simp only [hx] at h
            case int k m =>
              cases hy : ev fr y with
              | none => simp only [hy] at h
              | some v =>
                cases v <;> simp only [hy] at h
                case int k' m' =>
                  cases hk : ikEq k k' with
                  | false => rw [hk] at h; exact h.elim
                  | true =>
                    rw [hk] at h
                    have e1 := (hev hx).1
                    have e2 := (hev hy).1
                    exact ⟨_, h, trivial, fun w _ => by
                      have : (if m' < m then m' else m) = min m m' := by split <;> omega
                      simp [execOp, resolve, invoke, builtin, Builtin.min_, Builtin.min2, e1, e2, SV.den, this]⟩
    | value f => exact h.elim
    | invoke r m => exact h.elim
  case slice t x lo hi mx =>
    cases mx with
    | some _ => cases lo <;> cases hi <;> exact h.elim
    | none =>
      simp only at h
      cases hx : ev fr x with
      | none => simp only [hx] at h
      | some u =>
        cases u <;> simp only [hx] at h
        case str s =>
          cases ht : get C.E t with
          | none => simp only [ht] at h
          | some ti =>
            obtain ⟨kd, sz, ag, z⟩ := ti
            cases kd <;> simp only [ht] at h
            case str =>
              have e1 := (hev hx).1
              have hsl := fun w => slice_sound hE (s := s) ht w
              cases lo with
              | none =>
                cases hi with
                | none =>
                  simp only at h
                  exact ⟨_, h, trivial, fun w _ => by simp [execOp, e1, SV.den, (hsl w).1]⟩
                | some b =>
                  simp only at h
                  cases hb : ev fr b with
                  | none => simp only [hb] at h
                  | some v =>
                    cases v <;> simp only [hb] at h
                    case int k j =>
                      obtain ⟨hh, rfl, hle, h⟩ := h
                      have e2 := (hev hb).1
                      exact ⟨_, h, trivial, fun w _ => by
                        have := (hsl w).2.2.1 k hh hle
                        simp [execOp, e1, e2, SV.den, this]⟩
              | some a' =>
                cases hi with
                | none =>
                  simp only at h
                  cases hb : ev fr a' with
                  | none => simp only [hb] at h
                  | some v =>
                    cases v <;> simp only [hb] at h
                    case int k j =>
                      obtain ⟨hh, rfl, hle, h⟩ := h
                      have e2 := (hev hb).1
                      exact ⟨_, h, trivial, fun w _ => by
                        have := (hsl w).2.1 k hh hle
                        simp [execOp, e1, e2, SV.den, this]⟩
                | some b =>
                  simp only at h
                  cases ha : ev fr a' with
                  | none => simp only [ha] at h
                  | some u =>
                    cases u <;> simp only [ha] at h
                    case int k i =>
                      cases hb : ev fr b with
                      | none => simp only [hb] at h
                      | some v =>
                        cases v <;> simp only [hb] at h
                        case int k' j =>
                          obtain ⟨l, hh, rfl, rfl, hl, hle, h⟩ := h
                          have e2 := (hev ha).1
                          have e3 := (hev hb).1
                          exact ⟨_, h, trivial, fun w _ => by
                            have := (hsl w).2.2.2 k k' l hh hl hle
                            simp [execOp, e1, e2, e3, SV.den, this]⟩
  case convert t u x =>
    cases hx : ev fr x with
    | none => simp only [hx] at h
    | some v =>
      cases v <;> simp only [hx] at h
      case int k m =>
        cases hu : get C.E u with
        | none => simp only [hu] at h
        | some ti =>
          obtain ⟨kd, sz, ag, z⟩ := ti
          cases kd <;> simp only [hu] at h
          case int kd =>
            cases ht : get C.E t with
            | none => simp only [ht] at h
            | some tj =>
              obtain ⟨ke, sz2, ag2, z2⟩ := tj
              cases ke <;> simp only [ht] at h
              case int ke =>
                have e1 := (hev hx).1
                have hw := inK_wrap h.1
                have u1 : C.P.underlying u = some (.int kd) := (env_get hE hu).und
                have u2 : C.P.underlying t = some (.int ke) := (env_get hE ht).und
                exact ⟨_, h.2, trivial, fun w _ => by
                  have q1 : (underlying u).run C.P w = .ok (.int kd) w := by simp [underlying, u1]
                  have q2 : (underlying t).run C.P w = .ok (.int ke) w := by simp [underlying, u2]
                  simp [execOp, convert, q1, q2, e1, SV.den, Conv.intToInt, hw]⟩

theorem blobs_of {base : Nat} {w0 : Base} {rows : List (Nat × Bool × SRow)} {w : World} (hm : MemL base w0 rows β w) : ∀ i Φ, blobG rows i = some Φ → β i < w.heap.size ∧ Φ (β i) w.heap[β i]? := fun i Φ h => by
  unfold blobG at h
  cases hg : get rows i with
  | none => rw [hg] at h; cases h
  | some p =>
    obtain ⟨o, r⟩ := p
    rw [hg] at h
    cases r with
    | cells t cs => cases h
    | blob Ψ => cases h; exact hm.row i o _ hg
theorem evVal_sound {C : Ctx} (hE : EnvOK C.P C.E) {o : Oper} {fr : List (Nat × SV)} {rows : List (Nat × Bool × SRow)} {nx n : Nat} {K : SV → Prop} (hs : Sat C.base C.w0 ⟨fr, rows, nx, n⟩ β a w) (h : evVal C o.op fr rows K) : StepV C ⟨fr, rows, nx, n⟩ β o a K := by
  unfold evVal at h
  cases hx : isX C.E o.op fr with
  | false => rw [hx] at h; exact evVal0_sound hE hs h
  | true =>
    rw [hx] at h
    unfold extV at h
    obtain ⟨us, ⟨v, hok, hex, hK⟩, e, hu⟩ := evs_ok hs _ _ h
    obtain ⟨dst, op, ty, pos, after, g⟩ := o
    refine ⟨v, hK, hok _ hu, fun w hm => ?_⟩
    unfold ExtN at hex
    exact hex a.eval β w dst ty pos after g hm.below (blobs_of hm) e
theorem evOp_sound {C : Ctx} (hE : EnvOK C.P C.E) {o : Oper} {st : St} {K : St → Prop} (hs : Sat C.base C.w0 st β a w) (h : evOp C o st K) : Step C o a w K := by
  obtain ⟨dst, op, ty, pos, after, g⟩ := o
  obtain ⟨fr, rows, nx, n⟩ := st
  have hev : ∀ {x : Operand} {v : SV}, ev fr x = some v → a.eval x = v.den β ∧ v.ok nx := fun hx => ev_sound hs hx
  have hval : evVal C op fr rows (fun v => putD dst v ⟨fr, rows, nx, n⟩ K) → Step C ⟨dst, op, ty, pos, after, g⟩ a w K := fun h => by
    obtain ⟨v, hK, ho, hr⟩ := evVal_sound hE (o := ⟨dst, op, ty, pos, after, g⟩) hs h
    exact step_value hs ho (hr w hs.mem.l) hK
  cases op <;> try exact hval h
  all_goals simp only [evOp] at h
  case alloc t =>
    cases ht : get C.E t with
    | none => rw [ht] at h; exact h.elim
    | some ti =>
      obtain ⟨kd, sz, ag, z⟩ := ti
      rw [ht] at h
      obtain ⟨zv, hz1, hz2, hz3⟩ := (env_get hE ht).zero w
      refine step_new hs (SV.oks_mono (Nat.zero_le _) z hz3) ?_ h
      simp [execOp, Instr.alloc, hz1, newVar, newRow, hz2 β, World.alloc_eq]
  case box t x =>
    cases hx : ev fr x with
    | none => rw [hx] at h; exact h.elim
    | some v =>
      rw [hx] at h
      obtain ⟨e, ok⟩ := hev hx
      cases hc : cellsSV v with
      | none => simp only [hc] at h
      | some cs =>
        simp only [hc] at h
        obtain ⟨ec, oc⟩ := cells_sound (β := β) hc ok
        refine step_new hs oc ?_ h
        simp [execOp, Instr.box, e, newVar, newRow, ec, World.alloc_eq]
  case store t x y =>
    cases hx : ev fr x with
    | none => simp only [hx] at h
    | some u =>
      cases u <;> simp only [hx] at h
      case ptr i off =>
        cases hy : ev fr y with
        | none => simp only [hy] at h
        | some v =>
          cases ht : get C.E t with
          | none => simp only [hy, ht] at h
          | some ti =>
            obtain ⟨kd, sz, ag, z⟩ := ti
            simp only [hy, ht] at h
            cases hv : cellsSV v with
            | none => simp only [hv] at h
            | some vs =>
              cases hi : get rows i with
              | none => simp only [hv, hi] at h
              | some p =>
                obtain ⟨ow, r⟩ := p
                cases ow with
                | false => simp only [hv, hi] at h
                | true =>
                  cases r with
                  | blob Φ => simp only [hv, hi] at h
                  | cells t' cs =>
                    cases dst with
                    | some d => simp only [hv, hi] at h
                    | none =>
                      simp only [hv, hi] at h
                      cases hb : (Nat.beq vs.length sz && Nat.ble (off + sz) cs.length) && allOne vs with
                      | false => rw [hb] at h; exact h.elim
                      | true =>
                        rw [hb] at h
                        simp only [Bool.and_eq_true] at hb
                        exact step_store hE hs (o := ⟨none, .store t x y, ty, pos, after, g⟩) rfl rfl hx hy ht hv hi (Nat.eq_of_beq_eq_true hb.1.1) (Nat.le_of_ble_eq_true hb.1.2) hb.2 (forceL_eq _ _ h)
def resF (a : Act) : ResultVar → Sem Value
  | .tmp t => pure (a.tmps.getD t undef)
  | .cell b t => do loadVar t (← asAddr (a.tmps.getD b undef))
theorem asAddr_ptr (x : Addr) : asAddr (.pointer (some x)) = pure x := rfl
theorem results_eq {fn : Func} {res : List ResultVar} (h : fn.results = res.toArray) (a : Act) : results fn a.tmps = (do
    let vs ← List.toArray <$> res.mapM (resF a)
    pure (if h : vs.size = 1 then vs[0] else .tuple vs)) := by
  unfold results
  rw [h, Array.mapM_eq_mapM_toList]
  rfl
theorem resV_sound {C : Ctx} (hE : EnvOK C.P C.E) {st : St} (hs : Sat C.base C.w0 st β a w) : ∀ (rs : List ResultVar) (K : List SV → Prop), resV C st rs K → ∃ vs, K vs ∧ SV.oks st.next vs ∧
    (rs.mapM (resF a)).run C.P w = .ok (SV.dens β vs) w
  | [], K, h => ⟨[], h, trivial, rfl⟩
  | .tmp t :: r, K, h => by
    simp only [resV] at h
    cases hx : get st.fr t with
    | none => simp only [hx] at h
    | some v =>
      simp only [hx] at h
      obtain ⟨vs, hK, ho, e⟩ := resV_sound hE hs r _ h
      obtain ⟨e1, o1⟩ := hs.slot t v hx
      refine ⟨_, hK, ⟨o1, ho⟩, ?_⟩
      simp only [List.mapM_cons, Sem.run_bind, resF, Sem.run_pure, Result.andThen_ok, e1, e, SV.dens]
  | .cell b t :: r, K, h => by
    simp only [resV] at h
    cases hx : get st.fr b with
    | none => simp only [hx] at h
    | some u =>
      cases u <;> simp only [hx] at h
      case ptr i off =>
        obtain ⟨v, hK, ho, hr⟩ := loadV_sound hE hs.mem h
        obtain ⟨vs, hK2, ho2, e⟩ := resV_sound hE hs r _ hK
        obtain ⟨e1, _⟩ := hs.slot b _ hx
        refine ⟨_, hK2, ⟨ho, ho2⟩, ?_⟩
        simp only [List.mapM_cons, Sem.run_bind, resF, Sem.run_pure, Result.andThen_ok, e1, SV.den, asAddr_ptr, hr w hs.mem.l, e, SV.dens]
theorem retS_sound {C : Ctx} (hE : EnvOK C.P C.E) (hres : C.fn.results = C.res.toArray) {st : St} (hs : Sat C.base C.w0 st β a w) (h : retS C st) : C.Q .ret a w ∧ C.Q .normal a w := by
  unfold retS at h
  obtain ⟨vs, hK, ho, e⟩ := resV_sound hE hs _ _ h
  have hr : (results C.fn a.tmps).run C.P w = .ok (if h : (SV.dens β vs).toArray.size = 1 then (SV.dens β vs).toArray[0] else .tuple (SV.dens β vs).toArray) w := by
    rw [results_eq hres]
    simp only [Sem.run_bind, Sem.run_map, e, Result.andThen_ok, Sem.run_pure]
  have key : ∃ v, (results C.fn a.tmps).run C.P w = .ok v w ∧ C.R (.returned v) w := by
    refine ⟨_, hr, ?_⟩
    match vs, hK with
    | [], hK => unfold RetN at hK; exact hK β w hs.mem
    | [v], hK => unfold RetN at hK; exact hK β w hs.mem
    | u :: v :: r, hK => 
      unfold RetN at hK
      have := hK β w hs.mem
      rw [dif_neg (by simp [SV.dens])]
      exact this
  exact ⟨⟨hs.defers, key⟩, ⟨hs.defers, key⟩⟩
theorem guard_slot {st : St} {base : Nat} {w0 : Base} (hs : Sat base w0 st β a w) {all : List Oper} {j t : Nat} {v : SV} (h : guardV all st.fr j = some (t, v)) : a.tmps.getD t undef = v.den β := by
  unfold guardV at h
  split at h
  · rename_i t' _ _ _ _ _ _
    cases hx : get st.fr t' with
    | none => simp only [hx] at h; cases h
    | some u =>
      simp only [hx] at h
      cases h
      exact (hs.slot _ _ hx).1
  · cases h
theorem guard_sound {st : St} {base : Nat} {w0 : Base} (hs : Sat base w0 st β a w) {all : List Oper} {j t : Nat} {v : SV} (h : guardV all st.fr j = some (t, v)) :
    (∀ b, v.den β = .bool b → yielded all.toArray a.tmps j = some b) ∧ ((∀ b, v.den β ≠ .bool b) → yielded all.toArray a.tmps j = none) := by
  have hsl := guard_slot hs h
  have hd : ((all.toArray[j]?).bind (·.dst)) = some t := by
    unfold guardV at h
    split at h
    · rename_i t' _ _ _ _ _ heq
      cases hx : get st.fr t' with
      | none => simp only [hx] at h; cases h
      | some u =>
        simp only [hx] at h
        cases h
        simp [heq]
    · cases h
  unfold yielded
  rw [hd]
  simp only [Option.bind_some]
  rw [Array.getD_eq_getD_getElem?] at hsl
  cases ht : a.tmps[t]? with
  | none =>
    rw [ht] at hsl
    refine ⟨fun b e => ?_, fun _ => rfl⟩
    rw [e] at hsl; cases hsl
  | some x =>
    rw [ht] at hsl
    have hx : x = v.den β := hsl
    subst hx
    refine ⟨fun b e => by rw [e], fun hne => ?_⟩
    cases hv : v.den β <;> first | rfl | exact (hne _ hv).elim
theorem Sat.know {st : St} {base : Nat} {w0 : Base} (hs : Sat base w0 st β a w) {d : Nat} {v : SV} (e : a.tmps.getD d undef = v.den β) (hv : v.ok st.next) : Sat base w0 (st.put d v) β a w := by
  obtain ⟨h1, h2, h3, h4⟩ := hs
  refine ⟨h1, h2, fun s u hu => ?_, h4⟩
  have hu' : get ((d, v) :: st.fr) s = some u := hu
  rw [get_cons] at hu'
  by_cases e' : d = s
  · rw [if_pos e'] at hu'
    cases hu'
    subst e'
    exact ⟨e, hv⟩
  · rw [if_neg e'] at hu'
    exact h3 s u hu'
theorem enters_b {P : Program} {f : FuncId} (h : entersB P f = true) (args : Array Value) (w : World) : (callFunc f args).run P w = .ok (.enter f args) w := by
  unfold entersB at h
  cases hf : P.funcs[f]? with
  | none => rw [hf] at h; cases h
  | some fn =>
    rw [hf] at h
    simp only [Bool.and_eq_true] at h
    obtain ⟨h1, h2⟩ := h
    have h3 : fn.name ≠ "runtime.NumGoroutine" := by simpa using h2
    cases hb : fn.body with
    | none => rw [hb] at h1; cases h1
    | some c => simp [callFunc, hf, h3, hb]
theorem opS_sound {C : Ctx} (hE : EnvOK C.P C.E) {all l : List Oper} {k : List It} {o : Oper} {st : St} {K : St → Prop} (hs : Sat C.base C.w0 st β a w) (h : opS C all l k o st K)
    (hk : ∀ st' β' a' w', K st' → Sat C.base C.w0 st' β' a' w' → wpList C.P all.toArray (contQ C.P C.Q k) l a' w') : o.wp C.P a w (wpList C.P all.toArray (contQ C.P C.Q k) l) (contQ C.P C.Q k) := by
  unfold opS at h
  split at h
  · rename_i dst fo args tys ty pos after g
    cases hfo : ev st.fr fo with
    | none => simp only [hfo] at h
    | some u =>
      cases u <;> simp only [hfo] at h
      case fn fid cs =>
        obtain ⟨vs, hc, e⟩ := evs_sound hs _ _ h
        obtain ⟨ef, _⟩ := ev_sound hs hfo
        unfold CallN at hc
        have hcc := hc.2 β a w hs
        unfold Oper.wp
        have hr : (execOp a.eval ⟨dst, .call ⟨.value fo, ⟨args⟩, tys⟩, ty, pos, after, g⟩).run C.P w = .ok (.enter fid (SV.dens β (vs ++ cs)).toArray) w := by
          simp only [execOp, resolve, ef, SV.den, Deferred.ofValue, Sem.run_bind, Sem.run_pure, Result.andThen_ok, invoke]
          have e2 : (#[] ++ Array.map a.eval ⟨args⟩ ++ (SV.dens β cs).toArray : Array Value) = (SV.dens β (vs ++ cs)).toArray := by
            rw [SV.dens_append, ← e]; simp
          rw [e2]
          exact enters_b hc.1 _ _
        rw [hr]
        exact hcc
  · rename_i dst op ty pos after g _
    cases hr : rawB C st.fr dst op with
    | true =>
      rw [hr] at h
      simp only at h
      unfold XopN at h
      exact h β a w hs
    | false =>
      rw [hr] at h
      obtain ⟨st', β', a', w', hK, hs', hn⟩ := evOp_sound hE hs h
      exact hn _ _ (hk st' β' a' w' hK hs')
theorem Sat.world {st : St} {base : Nat} {w0 : Base} {w' : World} (hs : Sat base w0 st β a w) (h : Mem base w0 st.rows st.next β w') : Sat base w0 st β a w' := ⟨hs.defers, hs.size, hs.slot, h⟩
theorem Mem.drew {base : Nat} {w0 : Base} {rows : List (Nat × Bool × SRow)} {next : Nat} (h : Mem base w0 rows next β w) : Mem base w0 rows next β { w with drawn := w.drawn + 1 } := by
  refine ⟨h.below.drew, h.base_le, fun i o r hi => ?_, h.lt, h.inj, h.n0, h.ext, h.pr⟩
  obtain ⟨k1, k2⟩ := h.row i o r hi
  refine ⟨?_, k2⟩
  cases r with
  | cells t cs => exact k1
  | blob Φ => exact k1
theorem Mem.belowNext {base : Nat} {w0 : Base} {w w' : World} {rows : List (Nat × Bool × SRow)} {next : Nat} (h : Mem base w0 rows next β w) (hb : Below w.heap.size w w') : Mem base w0 rows next β w' := by
  refine ⟨h.below.trans (hb.mono h.base_le), Nat.le_trans h.base_le hb.size, fun i o r hi => ?_, fun i hi => Nat.lt_of_lt_of_le (h.lt i hi) hb.size, h.inj, h.n0, h.ext, h.pr.step (fun b h1 _ => ⟨Nat.lt_of_lt_of_le h1 hb.size, hb.block _ h1⟩) fun i r hi => .inl ⟨i, r, hi, rfl⟩⟩
  obtain ⟨k1, k2, k3, k4⟩ := h.row i o r hi
  refine ⟨?_, k2, k3, k4⟩
  have hlt := h.lt i k3
  cases r with
  | cells t cs => exact Row.below k1 hb hlt
  | blob Φ =>
    obtain ⟨q1, q2⟩ := k1
    exact ⟨Nat.lt_of_lt_of_le q1 hb.size, by rw [hb.block _ hlt]; exact q2⟩
theorem putD_keeps {d : Option Nat} {v : SV} {fr : List (Nat × SV)} {rows : List (Nat × Bool × SRow)} {nx n : Nat} {base : Nat} {w0 : Base} (hs : Sat base w0 ⟨fr, rows, nx, n⟩ β a w) (hv : v.ok nx) {K : St → Prop} (h : putD d v ⟨fr, rows, nx, n⟩ K) :
    ∃ fr', K ⟨fr', rows, nx, n⟩ ∧ Sat base w0 ⟨fr', rows, nx, n⟩ β (a.put d (v.den β)) w := by
  cases d with
  | none => exact h.elim
  | some d =>
    simp only [putD] at h
    cases hb : Nat.blt d n with
    | false => rw [hb] at h; exact h.elim
    | true =>
      rw [hb] at h
      exact ⟨_, h, hs.put (d := d) (by simpa [Nat.blt_eq] using hb) hv⟩
theorem rdS_sound {C : Ctx} (hE : EnvOK C.P C.E) {o : Oper} {fr : List (Nat × SV)} {rows : List (Nat × Bool × SRow)} {nx n : Nat} {K : St → Prop} (hs : Sat C.base C.w0 ⟨fr, rows, nx, n⟩ β a w) (h : rdS C o ⟨fr, rows, nx, n⟩ K) :
    ∃ v fr', K ⟨fr', rows, nx, n⟩ ∧ Sat C.base C.w0 ⟨fr', rows, nx, n⟩ β (a.put o.dst v) w ∧ ∀ w', Mem C.base C.w0 rows nx β w' → o.quietAt C.P a (Mem C.base C.w0 rows nx β) w' v := by
  unfold rdS at h
  split at h
  · rename_i dst fo args tys ty pos after g fr1 rows1 nx1 n1 e1
    cases e1
    cases hfo : ev fr fo with
    | none => simp only [hfo] at h
    | some u =>
      cases u <;> simp only [hfo] at h
      case fn fid cs =>
        cases cs with
        | cons _ _ => simp only at h
        | nil =>
        obtain ⟨vs, ⟨v, hen, hok, hc, hp⟩, e⟩ := evs_sound hs _ _ h
        obtain ⟨ef, _⟩ := ev_sound hs hfo
        obtain ⟨fr', hK, hs'⟩ := putD_keeps hs hok hp
        refine ⟨v.den β, fr', hK, hs', fun w' hw' => ?_⟩
        have hr : (execOp a.eval ⟨dst, .call ⟨.value fo, ⟨args⟩, tys⟩, ty, pos, after, g⟩).run C.P w' = .ok (.enter fid (SV.dens β vs).toArray) w' := by
          simp only [execOp, resolve, ef, SV.den, SV.dens, Deferred.ofValue, Sem.run_bind, Sem.run_pure, Result.andThen_ok, invoke]
          have e2 : (#[] ++ Array.map a.eval ⟨args⟩ ++ #[] : Array Value) = (SV.dens β vs).toArray := by
            rw [← e]; simp
          rw [e2]
          exact enters_b hen _ _
        unfold Oper.quietAt
        rw [hr]
        exact ⟨rfl, (hc β w' hw').mono fun e w'' ⟨h1, h2⟩ => ⟨h1, hw'.belowNext h2⟩⟩
  · rename_i dst op ty pos after g fr1 rows1 nx1 n1 _ e1
    cases e1
    obtain ⟨v, hp, hok, hr⟩ := evVal_sound hE (o := ⟨dst, op, ty, pos, after, g⟩) hs h
    obtain ⟨fr', hK, hs'⟩ := putD_keeps hs hok hp
    refine ⟨v.den β, fr', hK, hs', fun w' hw' => ?_⟩
    unfold Oper.quietAt
    rw [hr w' hw'.l]
    exact ⟨rfl, rfl⟩
theorem wpQuiet_mono {P : Program} {ops : Array Oper} {Cl : World → Prop} {Q Q' : Act → Prop} (h : ∀ a, Q a → Q' a) : ∀ (l : List Oper) (a : Act), wpQuiet P ops Cl Q l a → wpQuiet P ops Cl Q' l a
  | [], a, hh => h a hh
  | o :: l, a, hh => by
    unfold wpQuiet at hh ⊢
    split
    · rename_i hw; rw [if_pos hw] at hh; exact Oper.quiet_mono (fun a => wpQuiet_mono h l a) hh
    · rename_i hw; rw [if_neg hw] at hh; exact wpQuiet_mono h l _ hh
theorem wpQ_sound {C : Ctx} (hE : EnvOK C.P C.E) {all : List Oper} {rows : List (Nat × Bool × SRow)} {nx n : Nat} {K : St → Prop} : ∀ (f : Nat) (l : List Oper) (fr : List (Nat × SV)) (a : Act) (w : World),
    wpQ C all f l ⟨fr, rows, nx, n⟩ K → Sat C.base C.w0 ⟨fr, rows, nx, n⟩ β a w →
    wpQuiet C.P all.toArray (Mem C.base C.w0 rows nx β) (fun a' => ∀ w', Mem C.base C.w0 rows nx β w' → ∃ st', K st' ∧ Sat C.base C.w0 st' β a' w') l a
  | 0, _, _, _, _, h, _ => h.elim
  | f + 1, [], fr, a, w, h, hs => fun w' hw' => ⟨_, h, hs.world hw'⟩
  | f + 1, ⟨dst, op, ty, pos, after, g⟩ :: l, fr, a, w, h, hs => by
    have goS : Region.wanted ⟨dst, op, ty, pos, after, g⟩ (yielded all.toArray a.tmps) = true → rdS C ⟨dst, op, ty, pos, after, g⟩ ⟨fr, rows, nx, n⟩ (fun st' => wpQ C all f l st' K) → wpQuiet C.P all.toArray (Mem C.base C.w0 rows nx β) (fun a' => ∀ w', Mem C.base C.w0 rows nx β w' → ∃ st', K st' ∧ Sat C.base C.w0 st' β a' w') (⟨dst, op, ty, pos, after, g⟩ :: l) a := fun hw h => by
      obtain ⟨v, fr', hK, hs', hq⟩ := rdS_sound hE hs h
      unfold wpQuiet
      rw [if_pos hw]
      exact ⟨v, hq, wpQ_sound hE f l fr' _ w hK hs'⟩
    have skS : Region.wanted ⟨dst, op, ty, pos, after, g⟩ (yielded all.toArray a.tmps) = false → putD dst (.tup []) ⟨fr, rows, nx, n⟩ (fun st' => wpQ C all f l st' K) → wpQuiet C.P all.toArray (Mem C.base C.w0 rows nx β) (fun a' => ∀ w', Mem C.base C.w0 rows nx β w' → ∃ st', K st' ∧ Sat C.base C.w0 st' β a' w') (⟨dst, op, ty, pos, after, g⟩ :: l) a := fun hw h => by
      unfold wpQuiet
      rw [if_neg (by rw [hw]; simp)]
      obtain ⟨fr', hK, hs'⟩ := putD_keeps hs (v := .tup []) trivial h
      exact wpQ_sound hE f l fr' _ w hK hs'
    simp only [wpQ] at h
    cases g with
    | none => exact goS rfl h
    | some p =>
      obtain ⟨j, want⟩ := p
      cases hg : guardV all fr j with
      | none => simp only [hg] at h
      | some q =>
        obtain ⟨t, v⟩ := q
        obtain ⟨y1, y2⟩ := guard_sound hs hg
        simp only [hg] at h
        have hwant : ∀ b, v.den β = .bool b → Region.wanted ⟨dst, op, ty, pos, after, some (j, want)⟩ (yielded all.toArray a.tmps) = (b == want) := fun b e => by
          simp only [Region.wanted, y1 b e]; cases b <;> cases want <;> rfl
        have split : br v (wpQ C all f (⟨dst, op, ty, pos, after, some (j, want)⟩ :: l) (St.put ⟨fr, rows, nx, n⟩ t (.lit true)) K) (wpQ C all f (⟨dst, op, ty, pos, after, some (j, want)⟩ :: l) (St.put ⟨fr, rows, nx, n⟩ t (.lit false)) K) → wpQuiet C.P all.toArray (Mem C.base C.w0 rows nx β) (fun a' => ∀ w', Mem C.base C.w0 rows nx β w' → ∃ st', K st' ∧ Sat C.base C.w0 st' β a' w') (⟨dst, op, ty, pos, after, some (j, want)⟩ :: l) a := fun h => by
          obtain ⟨b, e1, ht, hf⟩ := br_sound (β := β) h
          have e0 := (guard_slot hs hg).trans e1
          cases b with
          | true => exact wpQ_sound hE f _ _ a w (ht rfl) (hs.know (v := .lit true) e0 trivial)
          | false => exact wpQ_sound hE f _ _ a w (hf rfl) (hs.know (v := .lit false) e0 trivial)
        cases v with
        | lit b =>
          simp only at h
          cases hb : b == want with
          | true => rw [hb] at h; exact goS ((hwant b rfl).trans hb) h
          | false => rw [hb] at h; exact skS ((hwant b rfl).trans hb) h
        | tup vs => exact skS (by simp only [Region.wanted, y2 (fun b e => by simp [SV.den] at e)]; rfl) h
        | bool b => exact split h
        | prop p hp => exact split h
        | _ => exact (split h)
end
end Sym
end Go.Proofs.YtnbahdnjcdimgaaDoor
