/- A walk that reckons: regions that draw their order and make blocks or call, walked order by order (what asks nothing of the world comes first). A walk that reckons: the walk is so; functions, loops, ways that meet. A walk that reckons: operations by lemma; steps of rows and columns as an argument. A walk that reckons: slices of the function's own: made, appended to, read. -/
import Derived.Test.YtnbahdnjcdimgaaDoorMSz3
import Derived.OrdersHeld
import Derived.Deep.Slices
import Derived.Maps.AppendAt
set_option linter.unusedSimpArgs false
set_option linter.unusedVariables false
namespace Go.Proofs.YtnbahdnjcdimgaaDoor
open Go.RowKit
namespace Sym
section
variable {β : Nat → Nat} {a : Act} {w : World}
theorem stepX_sound {C : Ctx} (hE : EnvOK C.P C.E) {o : Oper} {st : St} {K : St → Prop} (hs : Sat C.base C.w0 st β a w) (h : stepX C o st K) {next : Act → World → Prop} {Q : Exit → Act → World → Prop}
    (hn : ∀ st' β' a' w', K st' → Sat C.base C.w0 st' β' a' w' → next a' w') : o.wp C.P a w next Q := by
  unfold stepX at h
  split at h
  · rename_i dst fo args tys ty pos after g
    cases hfo : ev st.fr fo with
    | none => simp only [hfo] at h
    | some u =>
      cases u <;> simp only [hfo] at h
      case fn fid cs =>
        obtain ⟨vs, hc, e⟩ := evs_sound hs _ _ h
        obtain ⟨ef, _⟩ := ev_sound hs hfo
        unfold CallX at hc
        have hcc := hc.2 β a w hs
        unfold Oper.wp
        have hr : (execOp a.eval ⟨dst, .call ⟨.value fo, ⟨args⟩, tys⟩, ty, pos, after, g⟩).run C.P w = .ok (.enter fid (SV.dens β (vs ++ cs)).toArray) w := by
          simp only [execOp, resolve, ef, SV.den, Deferred.ofValue, Sem.run_bind, Sem.run_pure, Result.andThen_ok, invoke]
          have e2 : (#[] ++ Array.map a.eval ⟨args⟩ ++ (SV.dens β cs).toArray : Array Value) = (SV.dens β (vs ++ cs)).toArray := by
            rw [SV.dens_append, ← e]; simp
          rw [e2]
          exact enters_b hc.1 _ _
        rw [hr]
        refine hcc.mono ?_
        rintro e w' ⟨v, st', β', rfl, hK, hs'⟩
        exact hn _ _ _ _ hK hs'
  · rename_i dst op ty pos after g _
    cases hr : rawB C st.fr dst op with
    | true =>
      rw [hr] at h
      simp only at h
      unfold OpX at h
      exact h β a w hs next Q hn
    | false =>
      rw [hr] at h
      obtain ⟨st', β', a', w', hK, hs', hg⟩ := evOp_sound hE hs h
      exact hg _ _ (hn _ _ _ _ hK hs')
theorem getD_list {ls : List Bool} {i : Nat} {d : Bool} : ls.toArray.getD i d = ls.getD i d := by
  rw [Array.getD_eq_getD_getElem?, List.getD_eq_getElem?_getD]; simp
theorem set_list {ls : List Bool} {i : Nat} : ls.toArray.setIfInBounds i true = (ls.set i true).toArray := by
  apply Array.toList_inj.1; simp
theorem rdyB_spec {all : List Oper} {ls : List Bool} {i : Nat} {o : Oper} (ho : all[i]? = some o) : rdyB ls i o = true ↔ i ∈ Region.ready .any all.toArray ls.toArray := by
  rw [mem_ready]
  unfold rdyB
  simp only [Bool.and_eq_true, Bool.not_eq_true', List.all_eq_true, Bool.or_eq_true]
  constructor
  · rintro ⟨h1, h2⟩
    refine ⟨by rw [getD_list]; exact h1, o, by simpa using ho, fun e he hb => ?_⟩
    rcases h2 e (by simpa using he) with h3 | h3
    · rw [hb] at h3; cases h3
    · rw [getD_list]; exact h3
  · rintro ⟨h1, o', ho', h2⟩
    have : o' = o := by
      have h3 : all[i]? = some o' := by simpa using ho'
      rw [ho] at h3; cases h3; rfl
    subst this
    refine ⟨by rw [getD_list] at h1; exact h1, fun e he => ?_⟩
    cases hb : Region.binds .any e
    · exact .inl rfl
    · right
      have := h2 e (by simpa using he) hb
      rw [getD_list] at this; exact this
theorem freeB_spec {all : List Oper} {ls : List Bool} {oi : Oper} {i : Nat} : ∀ (l : List Oper) (k : Nat), freeB all ls oi i l k = true → ∀ j oj, l[j]? = some oj → k + j ≠ i → ls.getD (k + j) true = false → (∀ e ∈ oj.after, Region.binds .any e = true → e.on ≠ i) → oi.apart all.toArray oj = true
  | [], _, _, j, oj, h, _, _, _ => by simp at h
  | o :: r, k, h, j, oj, hj, hne, hun, hno => by
    simp only [freeB, Bool.and_eq_true] at h
    obtain ⟨h1, h2⟩ := h
    cases j with
    | zero =>
      simp only [List.getElem?_cons_zero, Option.some.injEq] at hj
      subst hj
      simp only [Bool.or_eq_true] at h1
      rcases h1 with h1 | h1 | h1 | h1
      · exact absurd (Nat.eq_of_beq_eq_true h1) (by simpa using hne)
      · have : ls.getD k true = false := hun
        rw [this] at h1; cases h1
      · obtain ⟨e, he, hb⟩ := List.any_eq_true.1 h1
        simp only [Bool.and_eq_true] at hb
        exact absurd (Nat.eq_of_beq_eq_true hb.2) (hno e (by simpa using he) hb.1)
      · exact h1
    | succ j =>
      have e1 : k + (j + 1) = k + 1 + j := by omega
      rw [e1] at hne hun
      exact freeB_spec r (k + 1) h2 j oj (by simpa using hj) hne hun hno
theorem pick_spec {C : Ctx} {ro : List (Nat × Bool × SRow)} {all : List Oper} {ls : List Bool} {fr : List (Nat × SV)} {i : Nat} {o : Oper} : ∀ (l : List Oper) (k : Nat), pickX C ro all ls fr l k = some (i, o) → ∃ j, i = k + j ∧ l[j]? = some o ∧ rdyB ls i o = true ∧ takeB C ro all ls fr i o = true
  | [], _, h => by simp [pickX] at h
  | x :: r, k, h => by
    unfold pickX at h
    have go : pickX C ro all ls fr r (k + 1) = some (i, o) → ∃ j, i = k + j ∧ (x :: r)[j]? = some o ∧ rdyB ls i o = true ∧ takeB C ro all ls fr i o = true := fun h => by
      obtain ⟨j, h1, h2, h3⟩ := pick_spec r (k + 1) h
      exact ⟨j + 1, by omega, by simpa using h2, h3⟩
    cases h1 : rdyB ls k x with
    | false => rw [h1] at h; exact go h
    | true =>
      rw [h1] at h
      cases h2 : takeB C ro all ls fr k x with
      | false => simp only [h2] at h; exact go h
      | true =>
        simp only [h2, Option.some.injEq, Prod.mk.injEq] at h
        obtain ⟨rfl, rfl⟩ := h
        exact ⟨0, by omega, by simp, h1, h2⟩
theorem some_spec {ls : List Bool} : ∀ (l : List Oper) (k : Nat), someX ls l k = true → ∃ j o, l[j]? = some o ∧ rdyB ls (k + j) o = true
  | [], _, h => by simp [someX] at h
  | x :: r, k, h => by
    unfold someX at h
    cases h1 : rdyB ls k x with
    | true => exact ⟨0, x, by simp, h1⟩
    | false =>
      rw [h1] at h
      obtain ⟨j, o, h2, h3⟩ := some_spec r (k + 1) h
      exact ⟨j + 1, o, by simpa using h2, by rw [show k + (j + 1) = k + 1 + j by omega]; exact h3⟩
theorem bothI {p q : Prop} (hp : p) (hq : q) : bothX p q := by unfold bothX; exact ⟨hp, hq⟩
theorem exp_spec {all : List Oper} {ls : List Bool} {fr : List (Nat × SV)} {T : Nat → Oper → Prop} : ∀ (l : List Oper) (k : Nat), expX all ls fr T l k → ∀ j o, l[j]? = some o → rdyB ls (k + j) o = true → (guardX all fr o.guard = .go) ∧ T (k + j) o
  | [], _, _, j, o, h, _ => by simp at h
  | x :: r, k, h, j, o, hj, hr => by
    unfold expX at h
    cases h1 : rdyB ls k x with
    | false =>
      rw [h1] at h
      cases j with
      | zero => simp only [List.getElem?_cons_zero, Option.some.injEq] at hj; subst hj; rw [show k + 0 = k by omega, h1] at hr; cases hr
      | succ j =>
        have := exp_spec r (k + 1) h j o (by simpa using hj) (by rw [show k + 1 + j = k + (j + 1) by omega]; exact hr)
        rw [show k + (j + 1) = k + 1 + j by omega]; exact this
    | true =>
      rw [h1] at h
      cases hg : guardX all fr x.guard <;> simp only [hg] at h
      unfold bothX at h
      obtain ⟨h2, h3⟩ := h
      cases j with
      | zero => simp only [List.getElem?_cons_zero, Option.some.injEq] at hj; subst hj; exact ⟨hg, h2⟩
      | succ j =>
        have := exp_spec r (k + 1) h3 j o (by simpa using hj) (by rw [show k + 1 + j = k + (j + 1) by omega]; exact hr)
        rw [show k + (j + 1) = k + 1 + j by omega]; exact this
theorem none_spec : ∀ (ls : List Bool), noneX ls = true → ∀ i, ls.getD i true = true
  | [], _, i => by simp
  | b :: r, h, i => by
    unfold noneX at h
    cases b with
    | false => cases h
    | true =>
      cases i with
      | zero => rfl
      | succ i => have := none_spec r h i; simpa using this
/-- what a guard says -/
theorem guardX_go {st : St} {base : Nat} {w0 : Base} (hs : Sat base w0 st β a w) {all : List Oper} {o : Oper} (h : guardX all st.fr o.guard = .go) : Region.wanted o (yielded all.toArray a.tmps) = true := by
  obtain ⟨dst, op, ty, pos, after, g⟩ := o
  cases g with
  | none => rfl
  | some p =>
    obtain ⟨j, want⟩ := p
    simp only [guardX] at h
    cases hg : guardV all st.fr j with
    | none => simp only [hg] at h; cases h
    | some q =>
      obtain ⟨t, v⟩ := q
      obtain ⟨y1, y2⟩ := guard_sound hs hg
      simp only [hg] at h
      cases v with
      | lit b =>
        simp only at h
        cases hb : b == want with
        | false => rw [hb] at h; cases h
        | true =>
          simp only [Region.wanted, y1 b rfl]
          cases b <;> cases want <;> first | rfl | cases hb
      | _ => cases h
theorem guardX_skip {st : St} {base : Nat} {w0 : Base} (hs : Sat base w0 st β a w) {all : List Oper} {o : Oper} (h : guardX all st.fr o.guard = .skip) : Region.wanted o (yielded all.toArray a.tmps) = false := by
  obtain ⟨dst, op, ty, pos, after, g⟩ := o
  cases g with
  | none => cases h
  | some p =>
    obtain ⟨j, want⟩ := p
    simp only [guardX] at h
    cases hg : guardV all st.fr j with
    | none => simp only [hg] at h; cases h
    | some q =>
      obtain ⟨t, v⟩ := q
      obtain ⟨y1, y2⟩ := guard_sound hs hg
      simp only [hg] at h
      cases v with
      | lit b =>
        simp only at h
        cases hb : b == want with
        | true => rw [hb] at h; cases h
        | false =>
          simp only [Region.wanted, y1 b rfl]
          cases b <;> cases want <;> first | rfl | cases hb
      | tup vs => simp only [Region.wanted, y2 (fun b e => by simp [SV.den] at e)]; rfl
      | _ => cases h
theorem guardX_split {st : St} {base : Nat} {w0 : Base} (hs : Sat base w0 st β a w) {all : List Oper} {o : Oper} {t : Nat} {v : SV} (h : guardX all st.fr o.guard = .split t v) : a.tmps.getD t undef = v.den β := by
  obtain ⟨dst, op, ty, pos, after, g⟩ := o
  cases g with
  | none => cases h
  | some p =>
    obtain ⟨j, want⟩ := p
    simp only [guardX] at h
    cases hg : guardV all st.fr j with
    | none => simp only [hg] at h; cases h
    | some q =>
      obtain ⟨t', v'⟩ := q
      have e := guard_slot hs hg
      simp only [hg] at h
      cases v' with
      | lit b =>
        simp only at h
        cases hb : b == want <;> rw [hb] at h <;> cases h
      | tup vs => cases h
      | _ => cases h; exact e
theorem count_lt {ls : List Bool} {i : Nat} (h : ls.getD i true = false) : ls[i]? = some false := by
  rw [List.getD_eq_getElem?_getD] at h
  cases hg : ls[i]? with
  | none => rw [hg] at h; cases h
  | some b => rw [hg] at h; simpa using h
/-- what a region that draws leaves alone -/
def Held (base : Nat) (w0 : Base) (ro : List (Nat × Bool × SRow)) (w : World) : Prop := Below base w0.w w ∧ ∀ i o r, get ro i = some (o, r) → RowIs w w0.β0 (w0.β0 i) r
theorem Sat.held {st : St} {base : Nat} {w0 : Base} {ro : List (Nat × Bool × SRow)} (hs : Sat base w0 st β a w) (hro : ∀ i o r, get ro i = some (o, r) → r.ok w0.n0 ∧ i < w0.n0) (hkp : ∀ i x, get ro i = some x → get st.rows i = some x) : Held base w0 ro w :=
  ⟨hs.mem.below, fun i o r hi => by
    obtain ⟨h1, h2⟩ := hro i o r hi
    obtain ⟨k1, -⟩ := hs.mem.row i o r (hkp _ _ hi)
    rw [← hs.mem.ext i h2]
    exact RowIs_ext (n := w0.n0) (fun q hq => (hs.mem.ext q hq).symm) h1 k1⟩
theorem Sat.someRows {base : Nat} {w0 : Base} {fr : List (Nat × SV)} {rows ro : List (Nat × Bool × SRow)} {nx n : Nat} (hs : Sat base w0 ⟨fr, rows, nx, n⟩ β a w) (hkp : ∀ i x, get ro i = some x → get rows i = some x) : Sat base w0 ⟨fr, ro, nx, n⟩ β a w :=
  ⟨hs.defers, hs.size, hs.slot, ⟨hs.mem.below, hs.mem.base_le, fun i o r hi => hs.mem.row i o r (hkp _ _ hi), hs.mem.lt, fun i j r o r' hi hj => hs.mem.inj i j r o r' (hkp _ _ hi) (hkp _ _ hj), hs.mem.n0, hs.mem.ext, hs.mem.pr.same fun i r hi => ⟨i, r, hkp _ _ hi, rfl⟩⟩⟩
theorem putD_keep {ro : List (Nat × Bool × SRow)} {d : Option Nat} {v : SV} {st : St} {K : St → Prop} (hkp : ∀ i x, get ro i = some x → get st.rows i = some x) (h : putD d v st K) : putD d v st (fun st' => K st' ∧ ∀ i x, get ro i = some x → get st'.rows i = some x) := by
  obtain ⟨fr, rows, nx, n⟩ := st
  cases d with
  | none => exact h
  | some d =>
    unfold putD at h ⊢
    cases hb : Nat.blt d n with
    | false => simp only [hb, cond_false] at h
    | true => simp only [hb, cond_true] at h ⊢; exact ⟨h, hkp⟩
theorem keepR_spec {rows : List (Nat × Bool × SRow)} {K : Prop} : ∀ ro : List (Nat × Bool × SRow), keepR ro rows K → (∀ i x, get ro i = some x → get rows i = some x) ∧ K
  | [], h => ⟨fun i x e => by simp [get] at e, h⟩
  | (j, y) :: r, h => by
    unfold keepR at h
    obtain ⟨h1, h2⟩ := h
    obtain ⟨k1, k2⟩ := keepR_spec r h2
    refine ⟨fun i x e => ?_, k2⟩
    rw [get_cons] at e
    by_cases e0 : j = i
    · rw [if_pos e0] at e; cases e; rw [← e0]; exact h1
    · rw [if_neg e0] at e; exact k1 i x e
theorem mem_iff {i : Nat} : ∀ {ts : List Nat}, mem i ts = false ↔ i ∉ ts
  | [] => by simp [mem]
  | j :: r => by
    have ih := mem_iff (i := i) (ts := r)
    unfold mem
    cases h : Nat.beq j i with
    | true => have := Nat.eq_of_beq_eq_true h; simp [this]
    | false => have := Nat.ne_of_beq_eq_false h; simp only [ih, List.mem_cons, not_or]; exact ⟨fun k => ⟨fun e => this e.symm, k⟩, fun k => k.2⟩
theorem roF_spec : ∀ (rows : List (Nat × Bool × SRow)) (ts : List Nat) (K : List (Nat × Bool × SRow) → Prop), roF ts rows K → ∃ ro, K ro ∧ ∀ i x, get ro i = some x → get rows i = some x ∧ i ∉ ts
  | [], _, _, h => ⟨[], h, fun i x e => by simp [get] at e⟩
  | (j, o, .blob Φ) :: r, ts, K, h => by
    unfold roF at h
    obtain ⟨ro, hK, hr⟩ := roF_spec r _ K h
    refine ⟨ro, hK, fun i x e => ?_⟩
    obtain ⟨h1, h2⟩ := hr i x e
    simp only [List.mem_cons, not_or] at h2
    exact ⟨by rw [get_cons, if_neg (fun e => h2.1 e.symm)]; exact h1, h2.2⟩
  | (j, o, .cells t cs) :: r, ts, K, h => by
    unfold roF at h
    cases hm : mem j ts with
    | true =>
      rw [hm] at h
      obtain ⟨ro, hK, hr⟩ := roF_spec r _ K h
      refine ⟨ro, hK, fun i x e => ?_⟩
      obtain ⟨h1, h2⟩ := hr i x e
      refine ⟨?_, h2⟩
      rw [get_cons, if_neg (fun e => ?_)]
      · exact h1
      · have := (mem_iff (i := i) (ts := ts)).2 h2
        rw [← e, hm] at this; cases this
    | false =>
      rw [hm] at h
      obtain ⟨ro, hK, hr⟩ := roF_spec r _ _ h
      refine ⟨_, hK, fun i x e => ?_⟩
      rw [get_cons] at e ⊢
      by_cases e0 : j = i
      · rw [if_pos e0] at e ⊢; rw [← e0]; exact ⟨e, mem_iff.1 hm⟩
      · rw [if_neg e0] at e ⊢
        obtain ⟨h1, h2⟩ := hr i x e
        simp only [List.mem_cons, not_or] at h2
        exact ⟨h1, h2.2⟩
theorem Sat.at {C : Ctx} {st : St} (hs : Sat C.base C.w0 st β a w) : Sat (C.at β st.next).base (C.at β st.next).w0 st β a w :=
  ⟨hs.defers, hs.size, hs.slot, ⟨hs.mem.below, hs.mem.base_le, hs.mem.row, hs.mem.lt, hs.mem.inj, Nat.le_refl _, fun _ _ => rfl, hs.mem.pr⟩⟩
theorem Sat.unat {C : Ctx} {st st' : St} {β' : Nat → Nat} {a' : Act} {w' : World} (hs : Sat C.base C.w0 st β a w) (h : Sat (C.at β st.next).base (C.at β st.next).w0 st' β' a' w') : Sat C.base C.w0 st' β' a' w' :=
  ⟨h.defers, h.size, h.slot, ⟨h.mem.below, h.mem.base_le, h.mem.row, h.mem.lt, h.mem.inj, Nat.le_trans hs.mem.n0 h.mem.n0, fun i hi => (h.mem.ext i (Nat.lt_of_lt_of_le hi hs.mem.n0)).trans (hs.mem.ext i hi), h.mem.pr⟩⟩
theorem wpX_sound {C : Ctx} (hE : EnvOK C.P C.E) {ro : List (Nat × Bool × SRow)} (hro : ∀ i o r, get ro i = some (o, r) → r.ok C.w0.n0 ∧ i < C.w0.n0) {all : List Oper} (hsel : Region.noSelect all.toArray = true) : ∀ (f : Nat) (ls : List Bool) (st : St) (β : Nat → Nat) (a : Act) (w : World) (K : St → Prop), wpX C ro all f ls st K → Sat C.base C.w0 st β a w → (∀ i x, get ro i = some x → get st.rows i = some x) → ∀ m, ls.count false ≤ m →
    wpAnyH C.P .any all.toArray (fun e a w => e = .normal ∧ ∃ st' β', K st' ∧ Sat C.base C.w0 st' β' a w) (fun w => Held C.base C.w0 ro w) m ls.toArray a w
  | 0, _, _, _, _, _, _, h, _, _, _, _ => h.elim
  | f + 1, ls, st, β, a, w, K, h, hs, hkp, m, hm => by
    have hheld : Held C.base C.w0 ro w := hs.held hro hkp
    have hsplit : ∀ t v, a.tmps.getD t undef = v.den β → br v (wpX C ro all f ls (st.put t (.lit true)) K) (wpX C ro all f ls (st.put t (.lit false)) K) → wpAnyH C.P .any all.toArray (fun e a w => e = .normal ∧ ∃ st' β', K st' ∧ Sat C.base C.w0 st' β' a w) (fun w => Held C.base C.w0 ro w) m ls.toArray a w := fun t v e0 h => by
      obtain ⟨b, e1, ht, hf⟩ := br_sound (β := β) h
      have e2 := e0.trans e1
      cases b with
      | true => exact wpX_sound hE hro hsel f ls _ β a w K (ht rfl) (hs.know (v := .lit true) e2 trivial) hkp m hm
      | false => exact wpX_sound hE hro hsel f ls _ β a w K (hf rfl) (hs.know (v := .lit false) e2 trivial) hkp m hm
    simp only [wpX] at h
    cases hp : pickX C ro all ls st.fr all 0 with
    | some p =>
      obtain ⟨i, o⟩ := p
      simp only [hp] at h
      obtain ⟨j, e0, ho, hrd, htk⟩ := pick_spec all 0 hp
      obtain rfl : i = j := by omega
      have hmem := (rdyB_spec ho).1 hrd
      have hun : ls[i]? = some false := count_lt (by have := (mem_ready.1 hmem).1; rwa [getD_list] at this)
      have hcnt := count_set ls i hun
      obtain ⟨m, rfl⟩ : ∃ m', m = m' + 1 := ⟨m - 1, by omega⟩
      have first : ∀ {v : Value}, freeB all ls o i all 0 = true → YieldsIf C.P all.toArray (fun w => Held C.base C.w0 ro w) o v a →
          wpAnyH C.P .any all.toArray (fun e a w => e = .normal ∧ ∃ st' β', K st' ∧ Sat C.base C.w0 st' β' a w) (fun w => Held C.base C.w0 ro w) m (ls.set i true).toArray (a.put o.dst v) w →
          wpAnyH C.P .any all.toArray (fun e a w => e = .normal ∧ ∃ st' β', K st' ∧ Sat C.base C.w0 st' β' a w) (fun w => Held C.base C.w0 ro w) (m + 1) ls.toArray a w := fun hfr hy hn => by
        refine wpAnyH_first (oi := o) (by simpa using ho) (Region.noSelect_spec hsel) (fun c a w h => by cases h.1) m _ a w (fun j oj hj hne hu hno => ?_) hmem hy hheld (by rw [set_list]; exact hn)
        exact freeB_spec all 0 hfr j oj (by simpa using hj) (by omega) (by rw [getD_list] at hu; simpa using hu) hno
      cases hg : guardX all st.fr o.guard with
      | bad => simp only [hg] at h
      | split t v => simp only [hg] at h; exact hsplit t v (guardX_split hs hg) h
      | skip =>
        simp only [hg] at h
        simp only [takeB, hg] at htk
        refine first (v := undef) htk (.inr ⟨guardX_skip hs hg, rfl⟩) ?_
        unfold putO at h
        cases hd : o.dst with
        | none =>
          simp only [hd] at h
          exact wpX_sound hE hro hsel f (ls.set i true) st β a w K h hs hkp m (by omega)
        | some d =>
          simp only [hd] at h
          obtain ⟨st', ⟨hK, hkp'⟩, hs'⟩ := putD_sound hs (v := .tup []) trivial (putD_keep hkp h)
          exact wpX_sound hE hro hsel f _ st' β _ w K hK hs' hkp' m (by omega)
      | go =>
        simp only [hg] at h
        have hfr : freeB all ls o i all 0 = true := by
          simp only [takeB, hg] at htk
          cases h1 : rawD C o.dst with
          | true => rw [h1] at htk; cases htk
          | false =>
            simp only [h1] at htk
            cases h2 : pureOp st.fr o.op || loadB ro st.fr o.op with
            | true => rw [h2] at htk; exact htk
            | false => rw [h2] at htk; cases htk
        obtain ⟨fr, rows, nx, n⟩ := st
        obtain ⟨v, hK, hok, hr⟩ := evVal_sound hE (rows := ro) (Sat.someRows (rows := rows) hs hkp) h
        obtain ⟨st', ⟨hK', hkp'⟩, hs'⟩ := putD_sound hs hok (putD_keep hkp hK)
        refine first (v := v.den β) hfr (.inl ⟨guardX_go hs hg, fun w' hw' => hr w' ⟨hw'.1, fun i o r hi => ?_⟩⟩) ?_
        · obtain ⟨hi0, hi1⟩ := hro i o r hi
          have e0 : β i = C.w0.β0 i := hs.mem.ext i hi1
          rw [e0]
          exact RowIs_ext (n := C.w0.n0) (fun q hq => hs.mem.ext q hq) hi0 (hw'.2 i o r hi)
        exact wpX_sound hE hro hsel f _ st' β _ w K hK' hs' hkp' m (by omega)
    | none =>
      simp only [hp] at h
      cases hn : noneX ls with
      | true =>
        simp only [hn] at h
        refine wpAnyH_done ?_ ⟨rfl, st, β, h, hs⟩ m
        apply List.eq_nil_iff_forall_not_mem.2
        intro i hi
        have := (mem_ready.1 hi).1
        rw [getD_list, none_spec ls hn i] at this
        cases this
      | false =>
        simp only [hn] at h
        cases hso : someX ls all 0 with
        | false => simp only [hso] at h
        | true =>
          simp only [hso] at h
          obtain ⟨j0, o0, h1, h2⟩ := some_spec all 0 hso
          rw [Nat.zero_add] at h2
          have hm0 := (rdyB_spec h1).1 h2
          have hun : ls[j0]? = some false := count_lt (by have := (mem_ready.1 hm0).1; rwa [getD_list] at this)
          have hcnt := count_set ls j0 hun
          obtain ⟨m, rfl⟩ : ∃ m', m = m' + 1 := ⟨m - 1, by omega⟩
          refine wpAnyH_all rfl (fun e => by rw [e] at hm0; cases hm0) (fun i hi => ?_)
          obtain ⟨hun', o, ho, _⟩ := mem_ready.1 hi
          have ho' : all[i]? = some o := by simpa using ho
          have hr := (rdyB_spec ho').2 hi
          obtain ⟨hg, hst⟩ := exp_spec all 0 h i o ho' (by rw [Nat.zero_add]; exact hr)
          rw [Nat.zero_add] at hst
          have hcnt' := count_set ls i (count_lt (by rwa [getD_list] at hun'))
          unfold wpOp
          simp only [ho]
          rw [if_pos (guardX_go hs hg)]
          left
          refine stepX_sound hE hs hst (fun st' β' a' w' hK hs' => ?_)
          obtain ⟨hkp', hK⟩ := keepR_spec _ hK
          refine ⟨hs'.held hro hkp', ?_⟩
          rw [set_list]
          exact wpX_sound hE hro hsel f _ st' β' a' w' K hK hs' hkp' m (by omega)
theorem regionX_sound {C : Ctx} (hE : EnvOK C.P C.E) {ro : List (Nat × Bool × SRow)} (hro : ∀ i o r, get ro i = some (o, r) → r.ok C.w0.n0 ∧ i < C.w0.n0) {l : List Oper} {st : St} {K : St → Prop} {id : Nat} (hsel : Region.noSelect l.toArray = true) (h : wpX C ro l 1000 (l.map fun _ => false) st K) (hs : Sat C.base C.w0 st β a w) (hkp : ∀ i x, get ro i = some x → get st.rows i = some x) {Q : Exit → Act → World → Prop}
    (hQ : ∀ st' β' a' w', K st' → Sat C.base C.w0 st' β' a' w' → Q .normal a' w') : (Code.region id ⟨l⟩ true).wp C.P Q a w := by
  refine wp_mono (Q' := Q) (wp_region_held (S := fun w => Held C.base C.w0 ro w) (Q := fun e a w => e = .normal ∧ ∃ st' β', K st' ∧ Sat C.base C.w0 st' β' a w) (env_mixed hE) ?_) ?_
  · have := wpX_sound hE hro hsel 1000 _ st β a { w with drawn := w.drawn + 1 } K h (hs.world hs.mem.drew) hkp l.length (by simpa using List.count_le_length (a := false) (l := l.map fun _ => false))
    have e : (l.map fun _ => false).toArray = Array.replicate l.length false := by
      apply Array.toList_inj.1; simp [List.map_const']
    rw [e] at this
    exact this
  · rintro e a' w' ⟨rfl, st', β', hK, hs'⟩
    exact hQ _ _ _ _ hK hs'
theorem allBe {p : (Nat → Nat) → Prop} (h : ∀ βe, p βe) : AllBe p := by unfold AllBe; exact h
theorem regionY_sound {C : Ctx} (hE : EnvOK C.P C.E) {l : List Oper} {st : St} {K : St → Prop} {id : Nat} (hsel : Region.noSelect l.toArray = true) (h : wpY C l st K) (hs : Sat C.base C.w0 st β a w) {Q : Exit → Act → World → Prop}
    (hQ : ∀ st' β' a' w', K st' → Sat C.base C.w0 st' β' a' w' → Q .normal a' w') : (Code.region id ⟨l⟩ true).wp C.P Q a w := by
  unfold wpY AllBe at h
  obtain ⟨ro, hK, hkp⟩ := roF_spec _ _ _ (h β)
  refine regionX_sound (C := C.at β st.next) hE (ro := ro) (fun i o r hi => ?_) hsel hK hs.at (fun i x hi => (hkp i x hi).1) (fun st' β' a' w' h1 h2 => hQ st' β' a' w' h1 (hs.unat h2))
  obtain ⟨-, k2, k3, -⟩ := hs.mem.row i o r (hkp _ _ hi).1
  exact ⟨k2, k3⟩
/-- a call whose answer is known -/
theorem callX {C : Ctx} {d : Nat} {f : FuncId} {args : List SV} {fr : List (Nat × SV)} {rows : List (Nat × Bool × SRow)} {nx n : Nat} {K : St → Prop} (v : SV)
    (he : entersB C.P f = true) (hd : Nat.blt d n = true) (hv : v.ok nx) (hc : ∀ β w, Mem C.base C.w0 rows nx β w → Calls C.P f (SV.dens β args).toArray w fun e w' => e = .returned (v.den β) ∧ Below w.heap.size w w')
    (h : K ⟨(d, v) :: fr, rows, nx, n⟩) : CallX C (some d) f args ⟨fr, rows, nx, n⟩ K := by
  unfold CallX
  refine ⟨he, fun β a w hs => (hc β w hs.mem).mono ?_⟩
  rintro e w' ⟨rfl, hb⟩
  have hs' : Sat C.base C.w0 ⟨fr, rows, nx, n⟩ β a w' := ⟨hs.defers, hs.size, hs.slot, hs.mem.belowNext hb⟩
  exact ⟨_, _, β, rfl, h, hs'.put (by simpa [Nat.blt_eq] using hd) hv⟩
end
end Sym
end Go.Proofs.YtnbahdnjcdimgaaDoor
namespace Go.Proofs.YtnbahdnjcdimgaaDoor
open Go.RowKit
namespace Sym
section
variable {β : Nat → Nat} {a : Act} {w : World}
/-- what the walk reckons is so -/
theorem wpS_sound {C : Ctx} (hE : EnvOK C.P C.E) (hres : C.fn.results = C.res.toArray) : ∀ (f : Nat) (k : List It) (st : St) (β : Nat → Nat) (a : Act) (w : World), wpS C f k st → Sat C.base C.w0 st β a w → contQ C.P C.Q k .normal a w
  | 0, k, st, β, a, w, h, hs => by simp only [wpS] at h; unfold StopN at h; exact h β a w hs
  | f + 1, [], st, β, a, w, h, hs => (retS_sound hE hres hs h).2
  | f + 1, .inBlk id :: k, st, β, a, w, h, hs => wpS_sound hE hres f k st β a w h hs
  | f + 1, .back I :: k, st, β, a, w, h, hs => by simp only [wpS] at h; unfold BackN at h; exact h β a w hs
  | f + 1, .ops all [] :: k, st, β, a, w, h, hs => wpS_sound hE hres f k st β a w h hs
  | f + 1, .ops all (⟨dst, op, ty, pos, after, g⟩ :: l) :: k, st, β, a, w, h, hs => by
    have goS : Region.wanted ⟨dst, op, ty, pos, after, g⟩ (yielded all.toArray a.tmps) = true → opS C all l k ⟨dst, op, ty, pos, after, g⟩ st (fun st' => wpS C f (.ops all l :: k) st') → contQ C.P C.Q (.ops all (⟨dst, op, ty, pos, after, g⟩ :: l) :: k) .normal a w := fun hw h => by
      show wpList C.P all.toArray (contQ C.P C.Q k) (⟨dst, op, ty, pos, after, g⟩ :: l) a w
      unfold wpList
      rw [if_pos hw]
      left
      exact opS_sound hE hs h (fun st' β' a' w' hK hs' => wpS_sound hE hres f _ st' β' a' w' hK hs')
    have skS : Region.wanted ⟨dst, op, ty, pos, after, g⟩ (yielded all.toArray a.tmps) = false → putD dst (.tup []) st (fun st' => wpS C f (.ops all l :: k) st') → contQ C.P C.Q (.ops all (⟨dst, op, ty, pos, after, g⟩ :: l) :: k) .normal a w := fun hw h => by
      show wpList C.P all.toArray (contQ C.P C.Q k) (⟨dst, op, ty, pos, after, g⟩ :: l) a w
      unfold wpList
      rw [if_neg (by rw [hw]; simp)]
      obtain ⟨st', hK, hs'⟩ := putD_sound hs (v := .tup []) trivial h
      exact wpS_sound hE hres f _ st' β _ w hK hs'
    simp only [wpS] at h
    cases g with
    | none => exact goS rfl h
    | some p =>
      obtain ⟨j, want⟩ := p
      cases hg : guardV all st.fr j with
      | none => simp only [hg] at h
      | some q =>
        obtain ⟨t, v⟩ := q
        obtain ⟨y1, y2⟩ := guard_sound hs hg
        simp only [hg] at h
        have lits : ∀ b, v.den β = .bool b → yielded all.toArray a.tmps j = some b := y1
        have hwant : ∀ b, v.den β = .bool b → Region.wanted ⟨dst, op, ty, pos, after, some (j, want)⟩ (yielded all.toArray a.tmps) = (b == want) := fun b e => by
          simp only [Region.wanted, lits b e]; cases b <;> cases want <;> rfl
        have split : br v (wpS C f (.ops all (⟨dst, op, ty, pos, after, some (j, want)⟩ :: l) :: k) (st.put t (.lit true))) (wpS C f (.ops all (⟨dst, op, ty, pos, after, some (j, want)⟩ :: l) :: k) (st.put t (.lit false))) → contQ C.P C.Q (.ops all (⟨dst, op, ty, pos, after, some (j, want)⟩ :: l) :: k) .normal a w := fun h => by
          obtain ⟨b, e1, ht, hf⟩ := br_sound (β := β) h
          have e0 := (guard_slot hs hg).trans e1
          cases b with
          | true => exact wpS_sound hE hres f _ _ β a w (ht rfl) (hs.know (v := .lit true) e0 trivial)
          | false => exact wpS_sound hE hres f _ _ β a w (hf rfl) (hs.know (v := .lit false) e0 trivial)
        cases v with
        | lit b =>
          simp only at h
          cases hb : b == want with
          | true => rw [hb] at h; exact goS ((hwant b rfl).trans hb) h
          | false => rw [hb] at h; exact skS ((hwant b rfl).trans hb) h
        | tup vs => exact skS (by simp only [Region.wanted, y2 (fun b e => by simp [SV.den] at e)]; rfl) h
        | bool b => exact split h
        | prop p hp => exact split h
        | _ => exact (split h)
  | f + 1, .code c :: k, st, β, a, w, h, hs => by
    show c.wp C.P (contQ C.P C.Q k) a w
    cases c <;> simp only [wpS] at h
    case skip => exact wp_skip (wpS_sound hE hres f k st β a w h hs)
    case label l => exact wp_label (wpS_sound hE hres f k st β a w h hs)
    case seq x y => exact wp_seq (wpS_sound hE hres f (.code x :: .code y :: k) st β a w h hs)
    case cond c x y =>
      split at h
      · unfold StopN at h; exact h β a w hs
      cases hc : ev st.fr c with
      | none => simp only [hc] at h
      | some v =>
        simp only [hc] at h
        obtain ⟨e, _⟩ := ev_sound hs hc
        obtain ⟨b, e1, ht, hf⟩ := br_sound (β := β) h
        refine wp_cond_split (e.trans e1) (fun hb => wpS_sound hE hres f (.code x :: k) st β a w (ht hb) hs) (fun hb => wpS_sound hE hres f (.code y :: k) st β a w (hf hb) hs)
    case block id c =>
      split at h
      · unfold StopN at h; exact h β a w hs
      exact wp_block (wpS_sound hE hres f (.code c :: .inBlk id :: k) st β a w h hs)
    case exit id =>
      cases hp : popTo id k with
      | none => simp only [hp] at h
      | some k' =>
        simp only [hp] at h
        exact wp_exit (by rw [contQ_exit _ _ _ _ _ _ _ hp]; exact wpS_sound hE hres f k' st β a w h hs)
    case ret => exact wp_ret (by rw [contQ_ret]; exact (retS_sound hE hres hs h).1)
    case region id ops draw =>
      obtain ⟨l⟩ := ops
      cases draw with
      | false => exact wp_region_lit (wpS_sound hE hres f (.ops l l :: k) st β a w h hs)
      | true =>
        simp only at h
        have hX : (Region.noSelect l.toArray = true ∧ wpX C [] l 1000 (l.map fun _ => false) st (fun st' => wpS C f k st')) → (Code.region id ⟨l⟩ true).wp C.P (contQ C.P C.Q k) a w := fun h =>
          regionX_sound hE (fun i o r h => by simp [get] at h) h.1 h.2 hs (fun i x h => by simp [get] at h) (fun st' β' a' w' hK hs' => wpS_sound hE hres f k st' β' a' w' hK hs')
        cases hsc : mem (id + 300000) C.sb with
        | true => simp only [hsc] at h; unfold StopN at h; exact h β a w hs
        | false =>
        simp only [hsc] at h
        cases hsd : mem (id + 200000) C.sb with
        | true => simp only [hsd] at h; exact regionY_sound hE h.1 h.2 hs (fun st' β' a' w' hK hs' => wpS_sound hE hres f k st' β' a' w' hK hs')
        | false =>
        simp only [hsd] at h
        cases hsb : mem (id + 100000) C.sb with
        | true => simp only [hsb] at h; exact hX h
        | false =>
        simp only [hsb] at h
        cases hq : qOps l with
        | false =>
          simp only [hq] at h
          cases hd : dOps l with
          | false => simp only [hd] at h; exact hX h
          | true =>
            simp only [hd] at h
            exact region_sound hE h hs (fun st' a' w' hK hs' => wpS_sound hE hres f k st' β a' w' hK hs')
        | true =>
          simp only [hq] at h
          obtain ⟨fr, rows, nx, n⟩ := st
          have := wpQ_sound (β := β) hE 1000 l fr a w h.2 hs
          refine wp_region_quiet (C := Mem C.base C.w0 rows nx β) (env_mixed hE) h.1 hs.mem.drew (wpQuiet_mono (fun a' ha' w' hw' => ?_) l a this)
          obtain ⟨st', hK, hs'⟩ := ha' w' hw'
          exact wpS_sound hE hres f k st' β _ w' hK hs'
    case loop c => unfold LoopN at h; exact h β a w hs
    case rangeFunc => unfold CodeN at h; exact h β a w hs
    case scope => unfold CodeN at h; exact h β a w hs
    case goto => unfold CodeN at h; exact h β a w hs
    case refuse => unfold CodeN at h; exact h β a w hs

def argSlots : Nat → List SV → List (Nat × SV)
  | _, [] => []
  | i, v :: r => (i, v) :: argSlots (i + 1) r
theorem argSlots_get {s : Nat} {v : SV} : ∀ (vs : List SV) (i : Nat), get (argSlots i vs) s = some v → i ≤ s ∧ vs[s - i]? = some v
  | [], i, h => by simp [argSlots, get] at h
  | u :: r, i, h => by
    simp only [argSlots, get_cons] at h
    by_cases e : i = s
    · rw [if_pos e] at h; cases h; subst e; simp
    · rw [if_neg e] at h
      obtain ⟨h1, h2⟩ := argSlots_get r (i + 1) h
      refine ⟨by omega, ?_⟩
      rw [show s - i = (s - (i + 1)) + 1 by omega]; simpa using h2
/-- a function is entered -/
theorem enter {P : Program} {E : Env} (hE : EnvOK P E) {f : FuncId} {fn : Func} {c : Code} {res : List ResultVar} {nt : Nat} (hf : P.funcs[f]? = some fn) (hb : fn.body = some c) (hres : fn.results = res.toArray) (hnt : fn.ntmps = nt)
    (sc sb : List Nat) (vs : List SV) (hv : SV.oks 0 vs) (hlen : vs.length ≤ nt) (w : World) (R : Ending → World → Prop) (fuel : Nat)
    (h : wpS ⟨P, E, w.heap.size, Base.of w, fn, res, R, sc, sb⟩ fuel [.code c] ⟨argSlots 0 vs, [], 0, nt⟩) : Calls P f (SV.dens (fun _ => 0) vs).toArray w R := by
  refine calls_of_wp hf hb ?_
  refine wpS_sound (C := ⟨P, E, w.heap.size, Base.of w, fn, res, R, sc, sb⟩) hE hres fuel [.code c] _ (fun _ => 0) _ w h ?_
  refine ⟨rfl, ?_, fun s v hs => ?_, ?_⟩
  · simp [SV.dens_len, hnt]; omega
  · obtain ⟨_, h2⟩ := argSlots_get vs 0 hs
    have h2 : vs[s]? = some v := by simpa using h2
    refine ⟨?_, SV.oks_get vs s v hv h2⟩
    have hs' : s < vs.length := (List.getElem?_eq_some_iff.1 h2).1
    rw [Array.getD_eq_getD_getElem?, Array.getElem?_append_left (by simpa [SV.dens_len] using hs')]
    simp [SV.dens_get, h2]
  · refine ⟨Below.refl _ _, Nat.le_refl _, fun i o r h => by simp [get] at h, fun i (h : i < 0) => by omega, fun i j r o r' h => by simp [get] at h, Nat.le_refl _, fun i (h : i < 0) => by omega, fun _ h => h.elim⟩
/-- a call whose answer is known: what it makes is new, nothing else is touched -/
theorem call {C : Ctx} (hE : EnvOK C.P C.E) (hres : C.fn.results = C.res.toArray) {all l : List Oper} {k : List It} {d : Nat} {f : FuncId} {args : List SV} {fr : List (Nat × SV)} {rows : List (Nat × Bool × SRow)} {nx n : Nat} (v : SV) (fuel : Nat)
    (he : entersB C.P f = true) (hd : Nat.blt d n = true) (hv : v.ok nx) (hc : ∀ β w, Mem C.base C.w0 rows nx β w → Calls C.P f (SV.dens β args).toArray w fun e w' => e = .returned (v.den β) ∧ Below w.heap.size w w')
    (h : wpS C fuel (.ops all l :: k) ⟨(d, v) :: fr, rows, nx, n⟩) : CallN C all l k (some d) f args ⟨fr, rows, nx, n⟩ := by
  unfold CallN
  refine ⟨he, fun β a w hs => (hc β w hs.mem).mono ?_⟩
  rintro e w' ⟨rfl, hb⟩
  refine wpS_sound hE hres fuel (.ops all l :: k) _ β _ w' h ?_
  have hs' : Sat C.base C.w0 ⟨fr, rows, nx, n⟩ β a w' := ⟨hs.defers, hs.size, hs.slot, hs.mem.belowNext hb⟩
  exact hs'.put (by simpa [Nat.blt_eq] using hd) hv
theorem ret {C : Ctx} {st : St} {v : SV} (h : ∀ β w, Mem C.base C.w0 st.rows st.next β w → C.R (.returned (v.den β)) w) : RetN C st v := by
  unfold RetN; exact h

theorem quiet {P : Program} {f : FuncId} {args : Array Value} {v : Value} (h : Calls P f args w fun e w' => e = .returned v ∧ w = w') : Calls P f args w fun e w' => e = .returned v ∧ Below w.heap.size w w' :=
  h.mono fun _ _ ⟨he, hw⟩ => ⟨he, hw ▸ Below.refl _ _⟩

theorem retW {C : Ctx} {st : St} {v : SV} (h : ∀ β w', Below C.base C.w0.w w' → C.R (.returned (v.den β)) w') : RetN C st v := by
  unfold RetN; exact fun β w hm => h β w hm.below
/-- the post 'this value, and nothing old is touched' -/
theorem retB {P : Program} {E : Env} {w0 : World} {fn : Func} {res : List ResultVar} {V : Value} {st : St} {v : SV} {sc sb : List Nat} (h : ∀ β, v.den β = V) :
    RetN ⟨P, E, w0.heap.size, Base.of w0, fn, res, fun e w' => e = .returned V ∧ Below w0.heap.size w0 w', sc, sb⟩ st v := retW fun β w' hb => ⟨by rw [h β], hb⟩

mutual
theorem eqSV_sound (β : Nat → Nat) : ∀ (u v : SV), eqSV u v → u.den β = v.den β
  | .int k n, v, h => by
    cases v <;> simp only [eqSV] at h
    case int k' m =>
      cases hk : ikEq k k' with
      | false => rw [hk] at h; exact h.elim
      | true => rw [hk] at h; rw [ikEq_eq hk, show n = m from h]
  | .str s, v, h => by cases v <;> simp only [eqSV] at h; rw [h]
  | .ptr i o, v, h => by cases v <;> simp only [eqSV] at h; rw [h.1, h.2]
  | .fn s cs, v, h => by cases v <;> simp only [eqSV] at h; rw [h.1, h.2]
  | .any s, v, h => by cases v <;> simp only [eqSV] at h; rw [h]
  | .lit b, v, h => by cases v <;> simp only [eqSV, isB, bval, cond_true, cond_false] at h <;> first | exact h.elim | (subst h; rfl) | (rw [h]; rfl)
  | .bool b, v, h => by cases v <;> simp only [eqSV, isB, bval, cond_true, cond_false] at h <;> first | exact h.elim | (subst h; rfl) | (rw [h]; rfl)
  | .prop p hp, v, h => by cases v <;> simp only [eqSV, isB, bval, cond_true, cond_false] at h <;> first | exact h.elim | (simp only [SV.den]; rw [h])
  | .agg us, v, h => by
    cases v <;> first | (cases us <;> simp only [eqSV] at h; done) | skip
    case agg vs => simp only [SV.den]; rw [eqAgg_sound β us vs (.inl h)]
  | .tup us, v, h => by
    cases v <;> first | (cases us <;> simp only [eqSV] at h; done) | skip
    case tup vs => simp only [SV.den]; rw [eqAgg_sound β us vs (.inr h)]
theorem eqAgg_sound (β : Nat → Nat) : ∀ (us vs : List SV), (eqSV (.agg us) (.agg vs) ∨ eqSV (.tup us) (.tup vs)) → SV.dens β us = SV.dens β vs
  | [], [], _ => rfl
  | [], _ :: _, h => by simp only [eqSV, or_self] at h
  | _ :: _, [], h => by simp only [eqSV, or_self] at h
  | u :: r, v :: s, h => by
    simp only [eqSV] at h
    have h1 : eqSV u v := by rcases h with h | h <;> exact h.1
    have h2 : eqSV (.agg r) (.agg s) ∨ eqSV (.tup r) (.tup s) := by rcases h with h | h; exact .inl h.2; exact .inr h.2
    simp only [SV.dens]
    rw [eqSV_sound β u v h1, eqAgg_sound β r s h2]
end
theorem eqL_sound (β : Nat → Nat) : ∀ (us vs : List SV), eqL us vs → SV.dens β us = SV.dens β vs
  | [], [], _ => rfl
  | [], _ :: _, h => h.elim
  | _ :: _, [], h => h.elim
  | u :: r, v :: s, h => by simp only [SV.dens]; rw [eqSV_sound β u v h.1, eqL_sound β r s h.2]
theorem eqI {k : IntKind} {n m : Int} (h : n = m) : eqSV (.int k n) (.int k m) := by subst h; cases k <;> simp [eqSV, ikEq]
theorem eqS {s t : List UInt8} (h : s = t) : eqSV (.str s) (.str t) := by simp only [eqSV]; exact h
mutual
theorem eqSV_refl : ∀ v : SV, eqSV v v
  | .lit b => by simp [eqSV, isB, bval]
  | .bool b => by simp [eqSV, isB, bval]
  | .prop p h => by simp [eqSV, isB, bval]
  | .int k n => eqI rfl
  | .str s => eqS rfl
  | .ptr i o => by simp [eqSV]
  | .fn f cs => by simp [eqSV]
  | .any v => by simp [eqSV]
  | .agg cs => (eqSVs_refl cs).1
  | .tup cs => (eqSVs_refl cs).2
theorem eqSVs_refl : ∀ cs : List SV, eqSV (.agg cs) (.agg cs) ∧ eqSV (.tup cs) (.tup cs)
  | [] => by simp [eqSV]
  | v :: r => by
    have h1 := eqSV_refl v
    have h2 := eqSVs_refl r
    simp only [eqSV]
    exact ⟨⟨h1, h2.1⟩, ⟨h1, h2.2⟩⟩
end
theorem wkF_sound {fr : List (Nat × SV)} {nx : Nat} {s : Nat} {v : SV} : ∀ {l : List (Nat × SV)}, wkF fr nx l → get l s = some v → ∃ u, get fr s = some u ∧ eqSV u v ∧ v.ok nx
  | [], _, h => by simp [get] at h
  | (i, x) :: r, hw, h => by
    rw [get_cons] at h
    by_cases e : i = s
    · rw [if_pos e] at h
      cases h; subst e
      have := hw.1
      cases hg : get fr i with
      | none => rw [hg] at this; exact this.elim
      | some u => rw [hg] at this; exact ⟨u, rfl, this⟩
    · rw [if_neg e] at h; exact wkF_sound hw.2 h
theorem wkR_sound {rows : List (Nat × Bool × SRow)} {nx i : Nat} {o : Bool} {r : SRow} : ∀ {l : List (Nat × Bool × SRow)}, wkR rows nx l → get l i = some (o, r) → i < nx ∧ r.ok nx ∧ ∃ r', get rows i = some (o, r') ∧ ∀ w β b, RowIs w β b r' → RowIs w β b r
  | [], _, h => by simp [get] at h
  | (j, o', .cells t cs) :: l, hw, h => by
    rw [get_cons] at h
    by_cases e : j = i
    · rw [if_pos e] at h
      cases h; subst e
      have := hw.1
      split at this
      · rename_i o1 t' cs' hg
        cases hb : Nat.beq t' t && (o == o1) with
        | false => rw [hb] at this; exact this.elim
        | true =>
          rw [hb] at this
          simp only [Bool.and_eq_true, beq_iff_eq] at hb
          obtain ⟨k1, k2, k3⟩ := this
          obtain ⟨hb1, hb2⟩ := hb
          have hb1 := Nat.eq_of_beq_eq_true hb1
          subst hb1; subst hb2
          refine ⟨by simpa [Nat.blt_eq] using k1, k3, _, hg, fun w β b hr => ?_⟩
          simp only [RowIs] at hr ⊢
          rw [← eqL_sound β _ _ k2]; exact hr
      · exact this.elim
    · rw [if_neg e] at h; exact wkR_sound hw.2 h
  | (j, o', .blob Φ) :: l, hw, h => by
    rw [get_cons] at h
    by_cases e : j = i
    · rw [if_pos e] at h
      cases h; subst e
      have := hw.1
      split at this
      · rename_i o1 Ψ hg
        cases hb : o == o1 with
        | false => rw [hb] at this; exact this.elim
        | true =>
          rw [hb] at this
          obtain ⟨k1, k2⟩ := this
          obtain rfl := eq_of_beq hb
          exact ⟨by simpa [Nat.blt_eq] using k1, trivial, _, hg, fun w β b hr => ⟨hr.1, k2 _ _ hr.2⟩⟩
      · exact this.elim
    · rw [if_neg e] at h; exact wkR_sound hw.2 h
theorem wk_sound {st st' : St} {base : Nat} {w0 : Base} (hn0 : w0.n0 ≤ st'.next) (h : wk st st') (hs : Sat base w0 st β a w) : Sat base w0 st' β a w := by
  obtain ⟨fr, rows, nx, n⟩ := st
  obtain ⟨fr', rows', nx', n'⟩ := st'
  simp only [wk] at h
  cases hb : Nat.beq n n' && Nat.ble nx' nx with
  | false => rw [hb] at h; exact h.elim
  | true =>
    rw [hb] at h
    simp only [Bool.and_eq_true] at hb
    have hn := Nat.eq_of_beq_eq_true hb.1
    have hx := Nat.le_of_ble_eq_true hb.2
    subst hn
    obtain ⟨h1, h2⟩ := h
    obtain ⟨k1, k2, k3, k4⟩ := hs
    refine ⟨k1, k2, fun s v hv => ?_, k4.below, k4.base_le, fun i o r hi => ?_, fun i hi => k4.lt i (show i < nx from Nat.lt_of_lt_of_le hi hx), fun i j r oj rj hi hj hji => ?_, hn0, k4.ext, k4.pr.same fun i r hi => by obtain ⟨_, _, r', g3, _⟩ := wkR_sound h2 hi; exact ⟨i, r', g3, rfl⟩⟩
    · obtain ⟨u, g1, g2, g3⟩ := wkF_sound h1 hv
      exact ⟨by rw [← eqSV_sound β u v g2]; exact (k3 s u g1).1, g3⟩
    · obtain ⟨g1, g2, r', g3, g4⟩ := wkR_sound h2 hi
      obtain ⟨m1, m2, m3, m4⟩ := k4.row i o r' g3
      exact ⟨g4 _ _ _ m1, g2, g1, m4⟩
    · obtain ⟨g1, g2, r', g3, g4⟩ := wkR_sound h2 hi
      obtain ⟨_, _, rj', f3, _⟩ := wkR_sound h2 hj
      exact k4.inj i j r' oj rj' g3 f3 hji
/-- a loop -/
theorem loop {C : Ctx} (hE : EnvOK C.P C.E) (hres : C.fn.results = C.res.toArray) {c : Code} {k : List It} {st : St} {T : Type} (J : T → St) (μ : T → Nat) (t0 : T) (fuel : Nat) (sc sb : List Nat) (hn0 : ∀ t, C.w0.n0 ≤ (J t).next) (h0 : wk st (J t0))
    (h : ∀ t (I : Act → World → Prop), (∀ st' t', μ t' < μ t → wk st' (J t') → BackN { C with sc := sc, sb := sb } I st') → wpS { C with sc := sc, sb := sb } fuel (.code c :: .back I :: k) (J t)) : LoopN C c k st := by
  unfold LoopN
  intro β a w hs
  refine wp_loop_ghost (fun n a w => ∃ t β, μ t = n ∧ Sat C.base C.w0 (J t) β a w) (μ t0) ⟨t0, β, rfl, wk_sound (hn0 t0) h0 hs⟩ ?_
  rintro n a w ⟨t, β, rfl, hs⟩
  exact wpS_sound (C := { C with sc := sc, sb := sb }) hE hres fuel _ _ β a w (h t _ (fun st' t' hlt hw => by
    unfold BackN
    exact fun β a w hs => ⟨μ t', hlt, t', β, rfl, wk_sound (hn0 t') hw hs⟩)) hs
/-- on with the walk, with other stops -/
theorem go {C : Ctx} (hE : EnvOK C.P C.E) (hres : C.fn.results = C.res.toArray) {k : List It} {st : St} (fuel : Nat) (sc sb : List Nat) (h : wpS { C with sc := sc, sb := sb } fuel k st) : StopN C k st := by
  unfold StopN
  exact fun β a w hs => wpS_sound (C := { C with sc := sc, sb := sb }) hE hres fuel _ _ β a w h hs
/-- the ways through a statement meet again -/
theorem join {C : Ctx} (hE : EnvOK C.P C.E) (hres : C.fn.results = C.res.toArray) {c : Code} {k : List It} {st : St} {T : Type} (J : T → St) (fuel fuel' : Nat) (sc sb sc' sb' : List Nat) (hn0 : ∀ t, C.w0.n0 ≤ (J t).next)
    (h : ∀ (I : Act → World → Prop), (∀ st' t', wk st' (J t') → BackN { C with sc := sc, sb := sb } I st') → wpS { C with sc := sc, sb := sb } fuel (.code c :: .back I :: k) st)
    (h2 : ∀ t, wpS { C with sc := sc', sb := sb' } fuel' k (J t)) : StopN C (.code c :: k) st := by
  unfold StopN
  intro β a w hs
  have h1 := wpS_sound (C := { C with sc := sc, sb := sb }) hE hres fuel _ _ β a w (h (fun a w => ∃ t β, Sat C.base C.w0 (J t) β a w) (fun st' t' hw => by
    unfold BackN
    exact fun β a w hs => ⟨t', β, wk_sound (hn0 t') hw hs⟩)) hs
  refine wp_mono (Q' := contQ C.P C.Q k) h1 ?_
  intro e a' w' hq
  cases e with
  | normal =>
    obtain ⟨t, β', hs'⟩ := hq
    exact wpS_sound (C := { C with sc := sc', sb := sb' }) hE hres fuel' _ _ β' a' w' (h2 t) hs'
  | _ => exact hq
/-- the callee is walked, too: it may write to blocks that the caller knows -/
def wkV (v : SV) (st : St) (V : SV) (rows : List (Nat × Bool × SRow)) (nx : Nat) : Prop := Nat.ble nx st.next = true ∧ eqSV v V ∧ V.ok nx ∧ wkR st.rows nx rows
end
end Sym
end Go.Proofs.YtnbahdnjcdimgaaDoor
namespace Go.Proofs.YtnbahdnjcdimgaaDoor
open Go.RowKit
namespace Sym
theorem x_len {C : Ctx} {G : Blobs} {x : Operand} {t e : TypeId} {a : Option Addr} {len cap : Nat} (ht : C.P.underlying t = some (.slice e)) : ExtN C G (.call ⟨.builtin .len, ⟨[x]⟩, ⟨[t]⟩⟩) [.any (.slice a len cap)] (.int .i64 (len : Nat)) := by
  unfold ExtN
  intro ρ β w dst ty pos after g _ _ h
  have e1 : ρ x = .slice a len cap := by simpa [opsX, SV.dens, SV.den] using h
  have q : (underlying t).run C.P w = .ok (.slice e) w := by simp [underlying, ht]
  simp [execOp, resolve, invoke, builtin, Builtin.len_, e1, q, SV.den, goInt]
theorem x_index {C : Ctx} {G : Blobs} {x y : Operand} {t e : TypeId} {a : Addr} {len cap j sz : Nat} {i : Int} (hi : i = (j : Nat)) (ht : C.P.underlying t = some (.slice e)) (hs : ∀ w, (sizeOf e).run C.P w = .ok sz w) (hj : j < len) :
    ExtN C G (.indexAddr t x y) [.any (.slice (some a) len cap), .int .i64 i] (.any (.pointer (some (a.add (j * sz))))) := by
  subst hi
  unfold ExtN
  intro ρ β w dst ty pos after g _ _ h
  have h' : ρ x = .slice (some a) len cap ∧ ρ y = .int .i64 (j : Nat) := by simpa [opsX, SV.dens, SV.den] using h
  have q : (underlying t).run C.P w = .ok (.slice e) w := by simp [underlying, ht]
  simp [execOp, Instr.indexAt, h'.1, h'.2, asIntOf, q, hs, hj, SV.den]
theorem x_indexPtr {C : Ctx} {G : Blobs} {x y : Operand} {t e : TypeId} {i off len j sz : Nat} (ht : C.P.underlying t = some (.array len e)) (hs : ∀ w, (sizeOf e).run C.P w = .ok sz w) (hj : j < len) :
    ExtN C G (.indexAddr t x y) [.ptr i off, .int .i64 (j : Nat)] (.ptr i (off + j * sz)) := by
  unfold ExtN
  intro ρ β w dst ty pos after g _ _ h
  have h' : ρ x = .pointer (some ⟨β i, off, none⟩) ∧ ρ y = .int .i64 (j : Nat) := by simpa [opsX, SV.dens, SV.den] using h
  have q : (underlying t).run C.P w = .ok (.array len e) w := by simp [underlying, ht]
  simp [execOp, Instr.indexAt, Instr.sureAddr, h'.1, h'.2, asIntOf, q, hs, hj, SV.den, add_at]
theorem x_load1 {C : Ctx} {G : Blobs} {x : Operand} {t : TypeId} {a : Addr} {v : SV} (hag : ∀ w, (isAgg t).run C.P w = .ok false w) (hc : ∀ w, Below C.base C.w0.w w → ∀ β, w.cell? a = some (v.den β)) :
    ExtN C G (.load t x) [.any (.pointer (some a))] v := by
  unfold ExtN
  intro ρ β w dst ty pos after g hb _ h
  have e1 : ρ x = .pointer (some a) := by simpa [opsX, SV.dens, SV.den] using h
  simp [execOp, Instr.loadAt, Instr.sureAddr, e1, loadVar, hag, hc w hb β]
theorem x_loadAgg {C : Ctx} {G : Blobs} {x : Operand} {t : TypeId} {a : Addr} {vs : List SV} (hag : ∀ w, (isAgg t).run C.P w = .ok true w) (hs : ∀ w, (sizeOf t).run C.P w = .ok vs.length w) (hc : ∀ w, Below C.base C.w0.w w → ∀ β j v, (SV.dens β vs)[j]? = some v → w.cell? (a.add j) = some v) :
    ExtN C G (.load t x) [.any (.pointer (some a))] (.agg vs) := by
  unfold ExtN
  intro ρ β w dst ty pos after g hb _ h
  have e1 : ρ x = .pointer (some a) := by simpa [opsX, SV.dens, SV.den] using h
  have := run_loadCells_list (P := C.P) w a (SV.dens β vs) (fun j v hj => hc w hb β j v hj)
  rw [SV.dens_len] at this
  simp [execOp, Instr.loadAt, Instr.sureAddr, e1, loadVar, hag, hs, this, SV.den]
theorem x_field {C : Ctx} {G : Blobs} {x : Operand} {t : TypeId} {a : Addr} {fs : Array Field} {f : Nat} {fd : Field} {sz : Nat} (ht : C.P.underlying t = some (.struct fs)) (hf : fs[f]? = some fd) (hs : ∀ w, (sizeOf fd.type).run C.P w = .ok sz w) (h0 : sz ≠ 0) :
    ExtN C G (.fieldAddr t x f) [.any (.pointer (some a))] (.any (.pointer (some (a.add fd.offset)))) := by
  unfold ExtN
  intro ρ β w dst ty pos after g hb _ h
  have e1 : ρ x = .pointer (some a) := by simpa [opsX, SV.dens, SV.den] using h
  have q : (underlying t).run C.P w = .ok (.struct fs) w := by simp [underlying, ht]
  simp [execOp, Instr.fieldAt, Instr.sureAddr, e1, q, hf, fieldPlace, hs, h0, SV.den]
theorem x_indexAgg {C : Ctx} {G : Blobs} {x y : Operand} {t e : TypeId} {len j : Nat} {cs : List SV} {v : SV} (ht : C.P.underlying t = some (.array len e)) (hs : ∀ w, (sizeOf e).run C.P w = .ok 1 w) (hag : ∀ w, (isAgg e).run C.P w = .ok false w) (hj : j < len) (hv : cs[j]? = some v) :
    ExtN C G (.index t x y) [.agg cs, .int .i64 (j : Nat)] v := by
  unfold ExtN
  intro ρ β w dst ty pos after g _ _ h
  have h' : ρ x = .agg (SV.dens β cs).toArray ∧ ρ y = .int .i64 (j : Nat) := by simpa [opsX, SV.dens, SV.den] using h
  have q : (underlying t).run C.P w = .ok (.array len e) w := by simp [underlying, ht]
  have g1 : (SV.dens β cs)[j]? = some (v.den β) := by rw [SV.dens_get, hv]; rfl
  simp [execOp, Instr.index, h'.1, h'.2, asIntOf, q, hs, hag, hj, part, g1]
/-- steps of rows or columns, as they lie in memory -/
def StepsAt (la : Option Addr) (L : List (Int × Int)) (w : World) : Prop := ∀ i s, L[i]? = some s → ∃ a, la = some a ∧ a.block < w.heap.size ∧ w.cell? (a.add (i * 2)) = some (.int .i64 s.1) ∧ w.cell? (a.add (i * 2 + 1)) = some (.int .i64 s.2)
theorem StepsAt.below {la : Option Addr} {L : List (Int × Int)} {w w' : World} (h : StepsAt la L w) (hb : Below w.heap.size w w') : StepsAt la L w' := fun i s hi => by
  obtain ⟨a, h1, h2, h3, h4⟩ := h i s hi
  have e : ∀ k, (a.add k).block = a.block := fun k => by unfold Addr.add; split <;> rfl
  refine ⟨a, h1, Nat.lt_of_lt_of_le h2 hb.size, ?_, ?_⟩
  · rw [World.cell?_of_block (w := w) (by rw [e]; exact hb.block _ h2)]; exact h3
  · rw [World.cell?_of_block (w := w) (by rw [e]; exact hb.block _ h2)]; exact h4
end Sym
end Go.Proofs.YtnbahdnjcdimgaaDoor
namespace Go.Proofs.YtnbahdnjcdimgaaDoor
open Go.RowKit
namespace Sym
/-- a block that one slice owns -/
def OwnI (e : TypeId) (g n cap : Nat) (xs : List Value) (b : Nat) (o : Option Obj) : Prop := b = g ∧ ∃ cur, o = some (.cells cur e (0, 0)) ∧ n ≤ cap ∧ cap ≤ maxLen ∧ cur.size = cap ∧ cur.toList.take n = xs ∧ xs.length = n
theorem OwnI.owns {e : TypeId} {g n cap : Nat} {xs : List Value} {b base : Nat} {w : World} (h : OwnI e g n cap xs b w.heap[b]?) (hb : base ≤ b) : w.ownsRow base e 1 (.slice (some ⟨g, 0, none⟩) n cap) n xs := by
  obtain ⟨rfl, cur, h1, h2, h3, h4, h5, h6⟩ := h
  exact ⟨by omega, .inr ⟨b, cap, cur, rfl, hb, h1, h2, h3, by omega, by simpa using h5⟩⟩
theorem OwnI.cell {e : TypeId} {g n cap : Nat} {xs : List Value} {b : Nat} {w : World} (h : OwnI e g n cap xs b w.heap[b]?) : ∀ j u, xs[j]? = some u → w.cell? ((⟨g, 0, none⟩ : Addr).add j) = some u := by
  obtain ⟨rfl, cur, h1, h2, h3, h4, h5, h6⟩ := h
  intro j u hj
  rw [add_at]
  have hjn : j < n := by have := (List.getElem?_eq_some_iff.1 hj).1; omega
  have : cur[j]? = some u := by
    rw [← h5, List.getElem?_take, if_pos hjn] at hj
    simpa using hj
  simp [World.cell?, h1, this]
mutual
/-- the block i is named -/
def ment (i : Nat) : SV → Bool
  | .ptr j _ => Nat.beq j i
  | .agg cs => ments i cs
  | .tup cs => ments i cs
  | .fn _ cs => ments i cs
  | _ => false
def ments (i : Nat) : List SV → Bool
  | [] => false
  | v :: r => ment i v || ments i r
end
mutual
theorem ment_den {i : Nat} {β β' : Nat → Nat} (hb : ∀ j, j ≠ i → β' j = β j) : ∀ v : SV, ment i v = false → v.den β' = v.den β
  | .lit _, _ => rfl
  | .bool _, _ => rfl
  | .prop _ _, _ => rfl
  | .int _ _, _ => rfl
  | .str _, _ => rfl
  | .ptr j _, h => by simp only [SV.den]; rw [hb j (Nat.ne_of_beq_eq_false h)]
  | .agg cs, h => by simp only [SV.den]; rw [ments_den hb cs h]
  | .tup cs, h => by simp only [SV.den]; rw [ments_den hb cs h]
  | .fn _ cs, h => by simp only [SV.den]; rw [ments_den hb cs h]
  | .any _, _ => rfl
theorem ments_den {i : Nat} {β β' : Nat → Nat} (hb : ∀ j, j ≠ i → β' j = β j) : ∀ vs : List SV, ments i vs = false → SV.dens β' vs = SV.dens β vs
  | [], _ => rfl
  | v :: r, h => by
    simp only [ments, Bool.or_eq_false_iff] at h
    simp only [SV.dens]; rw [ment_den hb v h.1, ments_den hb r h.2]
end
def mentF (i : Nat) : List (Nat × SV) → Bool
  | [] => false
  | (_, v) :: r => ment i v || mentF i r
def mentR (i : Nat) : List (Nat × Bool × SRow) → Bool
  | [] => false
  | (_, _, .cells _ cs) :: r => ments i cs || mentR i r
  | (_, _, .blob _) :: r => mentR i r
theorem mentF_get {i s : Nat} {v : SV} : ∀ (fr : List (Nat × SV)), mentF i fr = false → get fr s = some v → ment i v = false
  | [], _, h => by simp [get] at h
  | (j, u) :: r, hm, h => by
    simp only [mentF, Bool.or_eq_false_iff] at hm
    rw [get_cons] at h
    by_cases e : j = s
    · rw [if_pos e] at h; cases h; exact hm.1
    · rw [if_neg e] at h; exact mentF_get r hm.2 h
theorem mentR_get {i s : Nat} {o : Bool} {t : TypeId} {cs : List SV} : ∀ (rows : List (Nat × Bool × SRow)), mentR i rows = false → get rows s = some (o, .cells t cs) → ments i cs = false
  | [], _, h => by simp [get] at h
  | (j, q, .cells t' c') :: r, hm, h => by
    simp only [mentR, Bool.or_eq_false_iff] at hm
    rw [get_cons] at h
    by_cases e : j = s
    · rw [if_pos e] at h; cases h; exact hm.1
    · rw [if_neg e] at h; exact mentR_get r hm.2 h
  | (j, q, .blob _) :: r, hm, h => by
    simp only [mentR] at hm
    rw [get_cons] at h
    by_cases e : j = s
    · rw [if_pos e] at h; cases h
    · rw [if_neg e] at h; exact mentR_get r hm h
theorem RowIs_block {β : Nat → Nat} {w w' : World} {b : Nat} {r : SRow} (hb : w'.heap[b]? = w.heap[b]?) (hs : w.heap.size ≤ w'.heap.size) (h : RowIs w β b r) : RowIs w' β b r := by
  cases r with
  | cells t cs => simp only [RowIs] at h ⊢; unfold Row at h ⊢; rw [hb]; exact h
  | blob Φ => exact ⟨Nat.lt_of_lt_of_le h.1 hs, by rw [hb]; exact h.2⟩
theorem SRow.ok_mono {n m : Nat} (h : n ≤ m) : ∀ (r : SRow), r.ok n → r.ok m
  | .cells t cs, k => SV.oks_mono h cs k
  | .blob _, _ => trivial
end Sym
end Go.Proofs.YtnbahdnjcdimgaaDoor
