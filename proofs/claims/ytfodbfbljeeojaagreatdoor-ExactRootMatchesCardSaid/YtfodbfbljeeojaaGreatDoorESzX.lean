/- A walk that reckons: regions that draw their order and make blocks or call, walked order by order (what asks nothing of the world comes first). -/
import Derived.Test.YtfodbfbljeeojaaGreatDoorESz3
import Derived.OrdersHeld
set_option linter.unusedSimpArgs false
set_option linter.unusedVariables false
namespace Go.Proofs.YtfodbfbljeeojaaGreatDoor
open Go.RowKit
namespace Sym
section
variable {β : Nat → Nat} {a : Act} {w : World}
theorem stepX_sound {C : Ctx} (hE : EnvOK C.P C.E) {o : Oper} {st : St} {K : St → Prop} (hs : Sat C.base C.w0 st β a w) (h : stepX C o st K) {next : Act → World → Prop} {Q : Exit → Act → World → Prop}
    (hn : ∀ st' β' a' w', K st' → Sat C.base C.w0 st' β' a' w' → next a' w') : o.wp C.P a w next Q := by
  unfold stepX at h
  split at h
  · rename_i dst fo args tys ty pos after g
    cases hfo : ev st.fr fo with
    | none => simp only [hfo] at h
    | some u =>
      cases u <;> simp only [hfo] at h
      case fn fid cs =>
        obtain ⟨vs, hc, e⟩ := evs_sound hs _ _ h
        obtain ⟨ef, _⟩ := ev_sound hs hfo
        unfold CallX at hc
        have hcc := hc.2 β a w hs
        unfold Oper.wp
        have hr : (execOp a.eval ⟨dst, .call ⟨.value fo, ⟨args⟩, tys⟩, ty, pos, after, g⟩).run C.P w = .ok (.enter fid (SV.dens β (vs ++ cs)).toArray) w := by
          simp only [execOp, resolve, ef, SV.den, Deferred.ofValue, Sem.run_bind, Sem.run_pure, Result.andThen_ok, invoke]
          have e2 : (#[] ++ Array.map a.eval ⟨args⟩ ++ (SV.dens β cs).toArray : Array Value) = (SV.dens β (vs ++ cs)).toArray := by
            rw [SV.dens_append, ← e]; simp
          rw [e2]
          exact enters_b hc.1 _ _
        rw [hr]
        refine hcc.mono ?_
        rintro e w' ⟨v, st', β', rfl, hK, hs'⟩
        exact hn _ _ _ _ hK hs'
  · rename_i dst op ty pos after g _
    cases hr : rawB C st.fr dst op with
    | true =>
      rw [hr] at h
      simp only at h
      unfold OpX at h
      exact h β a w hs next Q hn
    | false =>
      rw [hr] at h
      obtain ⟨st', β', a', w', hK, hs', hg⟩ := evOp_sound hE hs h
      exact hg _ _ (hn _ _ _ _ hK hs')
theorem getD_list {ls : List Bool} {i : Nat} {d : Bool} : ls.toArray.getD i d = ls.getD i d := by
  rw [Array.getD_eq_getD_getElem?, List.getD_eq_getElem?_getD]; simp
theorem set_list {ls : List Bool} {i : Nat} : ls.toArray.setIfInBounds i true = (ls.set i true).toArray := by
  apply Array.toList_inj.1; simp
theorem rdyB_spec {all : List Oper} {ls : List Bool} {i : Nat} {o : Oper} (ho : all[i]? = some o) : rdyB ls i o = true ↔ i ∈ Region.ready .any all.toArray ls.toArray := by
  rw [mem_ready]
  unfold rdyB
  simp only [Bool.and_eq_true, Bool.not_eq_true', List.all_eq_true, Bool.or_eq_true]
  constructor
  · rintro ⟨h1, h2⟩
    refine ⟨by rw [getD_list]; exact h1, o, by simpa using ho, fun e he hb => ?_⟩
    rcases h2 e (by simpa using he) with h3 | h3
    · rw [hb] at h3; cases h3
    · rw [getD_list]; exact h3
  · rintro ⟨h1, o', ho', h2⟩
    have : o' = o := by
      have h3 : all[i]? = some o' := by simpa using ho'
      rw [ho] at h3; cases h3; rfl
    subst this
    refine ⟨by rw [getD_list] at h1; exact h1, fun e he => ?_⟩
    cases hb : Region.binds .any e
    · exact .inl rfl
    · right
      have := h2 e (by simpa using he) hb
      rw [getD_list] at this; exact this
theorem freeB_spec {all : List Oper} {ls : List Bool} {oi : Oper} {i : Nat} : ∀ (l : List Oper) (k : Nat), freeB all ls oi i l k = true → ∀ j oj, l[j]? = some oj → k + j ≠ i → ls.getD (k + j) true = false → (∀ e ∈ oj.after, Region.binds .any e = true → e.on ≠ i) → oi.apart all.toArray oj = true
  | [], _, _, j, oj, h, _, _, _ => by simp at h
  | o :: r, k, h, j, oj, hj, hne, hun, hno => by
    simp only [freeB, Bool.and_eq_true] at h
    obtain ⟨h1, h2⟩ := h
    cases j with
    | zero =>
      simp only [List.getElem?_cons_zero, Option.some.injEq] at hj
      subst hj
      simp only [Bool.or_eq_true] at h1
      rcases h1 with h1 | h1 | h1 | h1
      · exact absurd (Nat.eq_of_beq_eq_true h1) (by simpa using hne)
      · have : ls.getD k true = false := hun
        rw [this] at h1; cases h1
      · obtain ⟨e, he, hb⟩ := List.any_eq_true.1 h1
        simp only [Bool.and_eq_true] at hb
        exact absurd (Nat.eq_of_beq_eq_true hb.2) (hno e (by simpa using he) hb.1)
      · exact h1
    | succ j =>
      have e1 : k + (j + 1) = k + 1 + j := by omega
      rw [e1] at hne hun
      exact freeB_spec r (k + 1) h2 j oj (by simpa using hj) hne hun hno
theorem pick_spec {C : Ctx} {ro : List (Nat × Bool × SRow)} {all : List Oper} {ls : List Bool} {fr : List (Nat × SV)} {i : Nat} {o : Oper} : ∀ (l : List Oper) (k : Nat), pickX C ro all ls fr l k = some (i, o) → ∃ j, i = k + j ∧ l[j]? = some o ∧ rdyB ls i o = true ∧ takeB C ro all ls fr i o = true
  | [], _, h => by simp [pickX] at h
  | x :: r, k, h => by
    unfold pickX at h
    have go : pickX C ro all ls fr r (k + 1) = some (i, o) → ∃ j, i = k + j ∧ (x :: r)[j]? = some o ∧ rdyB ls i o = true ∧ takeB C ro all ls fr i o = true := fun h => by
      obtain ⟨j, h1, h2, h3⟩ := pick_spec r (k + 1) h
      exact ⟨j + 1, by omega, by simpa using h2, h3⟩
    cases h1 : rdyB ls k x with
    | false => rw [h1] at h; exact go h
    | true =>
      rw [h1] at h
      cases h2 : takeB C ro all ls fr k x with
      | false => simp only [h2] at h; exact go h
      | true =>
        simp only [h2, Option.some.injEq, Prod.mk.injEq] at h
        obtain ⟨rfl, rfl⟩ := h
        exact ⟨0, by omega, by simp, h1, h2⟩
theorem some_spec {ls : List Bool} : ∀ (l : List Oper) (k : Nat), someX ls l k = true → ∃ j o, l[j]? = some o ∧ rdyB ls (k + j) o = true
  | [], _, h => by simp [someX] at h
  | x :: r, k, h => by
    unfold someX at h
    cases h1 : rdyB ls k x with
    | true => exact ⟨0, x, by simp, h1⟩
    | false =>
      rw [h1] at h
      obtain ⟨j, o, h2, h3⟩ := some_spec r (k + 1) h
      exact ⟨j + 1, o, by simpa using h2, by rw [show k + (j + 1) = k + 1 + j by omega]; exact h3⟩
theorem bothI {p q : Prop} (hp : p) (hq : q) : bothX p q := by unfold bothX; exact ⟨hp, hq⟩
theorem exp_spec {all : List Oper} {ls : List Bool} {fr : List (Nat × SV)} {T : Nat → Oper → Prop} : ∀ (l : List Oper) (k : Nat), expX all ls fr T l k → ∀ j o, l[j]? = some o → rdyB ls (k + j) o = true → (guardX all fr o.guard = .go) ∧ T (k + j) o
  | [], _, _, j, o, h, _ => by simp at h
  | x :: r, k, h, j, o, hj, hr => by
    unfold expX at h
    cases h1 : rdyB ls k x with
    | false =>
      rw [h1] at h
      cases j with
      | zero => simp only [List.getElem?_cons_zero, Option.some.injEq] at hj; subst hj; rw [show k + 0 = k by omega, h1] at hr; cases hr
      | succ j =>
        have := exp_spec r (k + 1) h j o (by simpa using hj) (by rw [show k + 1 + j = k + (j + 1) by omega]; exact hr)
        rw [show k + (j + 1) = k + 1 + j by omega]; exact this
    | true =>
      rw [h1] at h
      cases hg : guardX all fr x.guard <;> simp only [hg] at h
      unfold bothX at h
      obtain ⟨h2, h3⟩ := h
      cases j with
      | zero => simp only [List.getElem?_cons_zero, Option.some.injEq] at hj; subst hj; exact ⟨hg, h2⟩
      | succ j =>
        have := exp_spec r (k + 1) h3 j o (by simpa using hj) (by rw [show k + 1 + j = k + (j + 1) by omega]; exact hr)
        rw [show k + (j + 1) = k + 1 + j by omega]; exact this
theorem none_spec : ∀ (ls : List Bool), noneX ls = true → ∀ i, ls.getD i true = true
  | [], _, i => by simp
  | b :: r, h, i => by
    unfold noneX at h
    cases b with
    | false => cases h
    | true =>
      cases i with
      | zero => rfl
      | succ i => have := none_spec r h i; simpa using this
/-- what a guard says -/
theorem guardX_go {st : St} {base : Nat} {w0 : Base} (hs : Sat base w0 st β a w) {all : List Oper} {o : Oper} (h : guardX all st.fr o.guard = .go) : Region.wanted o (yielded all.toArray a.tmps) = true := by
  obtain ⟨dst, op, ty, pos, after, g⟩ := o
  cases g with
  | none => rfl
  | some p =>
    obtain ⟨j, want⟩ := p
    simp only [guardX] at h
    cases hg : guardV all st.fr j with
    | none => simp only [hg] at h; cases h
    | some q =>
      obtain ⟨t, v⟩ := q
      obtain ⟨y1, y2⟩ := guard_sound hs hg
      simp only [hg] at h
      cases v with
      | lit b =>
        simp only at h
        cases hb : b == want with
        | false => rw [hb] at h; cases h
        | true =>
          simp only [Region.wanted, y1 b rfl]
          cases b <;> cases want <;> first | rfl | cases hb
      | _ => cases h
theorem guardX_skip {st : St} {base : Nat} {w0 : Base} (hs : Sat base w0 st β a w) {all : List Oper} {o : Oper} (h : guardX all st.fr o.guard = .skip) : Region.wanted o (yielded all.toArray a.tmps) = false := by
  obtain ⟨dst, op, ty, pos, after, g⟩ := o
  cases g with
  | none => cases h
  | some p =>
    obtain ⟨j, want⟩ := p
    simp only [guardX] at h
    cases hg : guardV all st.fr j with
    | none => simp only [hg] at h; cases h
    | some q =>
      obtain ⟨t, v⟩ := q
      obtain ⟨y1, y2⟩ := guard_sound hs hg
      simp only [hg] at h
      cases v with
      | lit b =>
        simp only at h
        cases hb : b == want with
        | true => rw [hb] at h; cases h
        | false =>
          simp only [Region.wanted, y1 b rfl]
          cases b <;> cases want <;> first | rfl | cases hb
      | tup vs => simp only [Region.wanted, y2 (fun b e => by simp [SV.den] at e)]; rfl
      | _ => cases h
theorem guardX_split {st : St} {base : Nat} {w0 : Base} (hs : Sat base w0 st β a w) {all : List Oper} {o : Oper} {t : Nat} {v : SV} (h : guardX all st.fr o.guard = .split t v) : a.tmps.getD t undef = v.den β := by
  obtain ⟨dst, op, ty, pos, after, g⟩ := o
  cases g with
  | none => cases h
  | some p =>
    obtain ⟨j, want⟩ := p
    simp only [guardX] at h
    cases hg : guardV all st.fr j with
    | none => simp only [hg] at h; cases h
    | some q =>
      obtain ⟨t', v'⟩ := q
      have e := guard_slot hs hg
      simp only [hg] at h
      cases v' with
      | lit b =>
        simp only at h
        cases hb : b == want <;> rw [hb] at h <;> cases h
      | tup vs => cases h
      | _ => cases h; exact e
theorem count_lt {ls : List Bool} {i : Nat} (h : ls.getD i true = false) : ls[i]? = some false := by
  rw [List.getD_eq_getElem?_getD] at h
  cases hg : ls[i]? with
  | none => rw [hg] at h; cases h
  | some b => rw [hg] at h; simpa using h
theorem Sat.noRows {st : St} {base : Nat} {w0 : Base} {fr : List (Nat × SV)} {rows : List (Nat × Bool × SRow)} {nx n : Nat} (hs : Sat base w0 ⟨fr, rows, nx, n⟩ β a w) : Sat base w0 ⟨fr, [], nx, n⟩ β a w := ⟨hs.defers, hs.size, hs.slot, hs.mem.nil⟩
/-- what a region that draws leaves alone -/
def Held (base : Nat) (w0 : Base) (ro : List (Nat × Bool × SRow)) (w : World) : Prop := Below base w0.w w ∧ ∀ i o r, get ro i = some (o, r) → RowIs w w0.β0 (w0.β0 i) r
theorem Sat.held {st : St} {base : Nat} {w0 : Base} {ro : List (Nat × Bool × SRow)} (hs : Sat base w0 st β a w) (hro : ∀ i o r, get ro i = some (o, r) → r.ok w0.n0 ∧ i < w0.n0) (hkp : ∀ i x, get ro i = some x → get st.rows i = some x) : Held base w0 ro w :=
  ⟨hs.mem.below, fun i o r hi => by
    obtain ⟨h1, h2⟩ := hro i o r hi
    obtain ⟨k1, -⟩ := hs.mem.row i o r (hkp _ _ hi)
    rw [← hs.mem.ext i h2]
    exact RowIs_ext (n := w0.n0) (fun q hq => (hs.mem.ext q hq).symm) h1 k1⟩
theorem Sat.someRows {base : Nat} {w0 : Base} {fr : List (Nat × SV)} {rows ro : List (Nat × Bool × SRow)} {nx n : Nat} (hs : Sat base w0 ⟨fr, rows, nx, n⟩ β a w) (hkp : ∀ i x, get ro i = some x → get rows i = some x) : Sat base w0 ⟨fr, ro, nx, n⟩ β a w :=
  ⟨hs.defers, hs.size, hs.slot, ⟨hs.mem.below, hs.mem.base_le, fun i o r hi => hs.mem.row i o r (hkp _ _ hi), hs.mem.lt, fun i j r o r' hi hj => hs.mem.inj i j r o r' (hkp _ _ hi) (hkp _ _ hj), hs.mem.n0, hs.mem.ext⟩⟩
theorem putD_keep {ro : List (Nat × Bool × SRow)} {d : Option Nat} {v : SV} {st : St} {K : St → Prop} (hkp : ∀ i x, get ro i = some x → get st.rows i = some x) (h : putD d v st K) : putD d v st (fun st' => K st' ∧ ∀ i x, get ro i = some x → get st'.rows i = some x) := by
  obtain ⟨fr, rows, nx, n⟩ := st
  cases d with
  | none => exact h
  | some d =>
    unfold putD at h ⊢
    cases hb : Nat.blt d n with
    | false => simp only [hb, cond_false] at h
    | true => simp only [hb, cond_true] at h ⊢; exact ⟨h, hkp⟩
theorem keepR_spec {rows : List (Nat × Bool × SRow)} {K : Prop} : ∀ ro : List (Nat × Bool × SRow), keepR ro rows K → (∀ i x, get ro i = some x → get rows i = some x) ∧ K
  | [], h => ⟨fun i x e => by simp [get] at e, h⟩
  | (j, y) :: r, h => by
    unfold keepR at h
    obtain ⟨h1, h2⟩ := h
    obtain ⟨k1, k2⟩ := keepR_spec r h2
    refine ⟨fun i x e => ?_, k2⟩
    rw [get_cons] at e
    by_cases e0 : j = i
    · rw [if_pos e0] at e; cases e; rw [← e0]; exact h1
    · rw [if_neg e0] at e; exact k1 i x e
theorem mem_iff {i : Nat} : ∀ {ts : List Nat}, mem i ts = false ↔ i ∉ ts
  | [] => by simp [mem]
  | j :: r => by
    have ih := mem_iff (i := i) (ts := r)
    unfold mem
    cases h : Nat.beq j i with
    | true => have := Nat.eq_of_beq_eq_true h; simp [this]
    | false => have := Nat.ne_of_beq_eq_false h; simp only [ih, List.mem_cons, not_or]; exact ⟨fun k => ⟨fun e => this e.symm, k⟩, fun k => k.2⟩
theorem roF_spec : ∀ (rows : List (Nat × Bool × SRow)) (ts : List Nat) (K : List (Nat × Bool × SRow) → Prop), roF ts rows K → ∃ ro, K ro ∧ ∀ i x, get ro i = some x → get rows i = some x ∧ i ∉ ts
  | [], _, _, h => ⟨[], h, fun i x e => by simp [get] at e⟩
  | (j, o, .blob Φ) :: r, ts, K, h => by
    unfold roF at h
    obtain ⟨ro, hK, hr⟩ := roF_spec r _ K h
    refine ⟨ro, hK, fun i x e => ?_⟩
    obtain ⟨h1, h2⟩ := hr i x e
    simp only [List.mem_cons, not_or] at h2
    exact ⟨by rw [get_cons, if_neg (fun e => h2.1 e.symm)]; exact h1, h2.2⟩
  | (j, o, .cells t cs) :: r, ts, K, h => by
    unfold roF at h
    cases hm : mem j ts with
    | true =>
      rw [hm] at h
      obtain ⟨ro, hK, hr⟩ := roF_spec r _ K h
      refine ⟨ro, hK, fun i x e => ?_⟩
      obtain ⟨h1, h2⟩ := hr i x e
      refine ⟨?_, h2⟩
      rw [get_cons, if_neg (fun e => ?_)]
      · exact h1
      · have := (mem_iff (i := i) (ts := ts)).2 h2
        rw [← e, hm] at this; cases this
    | false =>
      rw [hm] at h
      obtain ⟨ro, hK, hr⟩ := roF_spec r _ _ h
      refine ⟨_, hK, fun i x e => ?_⟩
      rw [get_cons] at e ⊢
      by_cases e0 : j = i
      · rw [if_pos e0] at e ⊢; rw [← e0]; exact ⟨e, mem_iff.1 hm⟩
      · rw [if_neg e0] at e ⊢
        obtain ⟨h1, h2⟩ := hr i x e
        simp only [List.mem_cons, not_or] at h2
        exact ⟨h1, h2.2⟩
theorem Sat.at {C : Ctx} {st : St} (hs : Sat C.base C.w0 st β a w) : Sat (C.at β st.next).base (C.at β st.next).w0 st β a w :=
  ⟨hs.defers, hs.size, hs.slot, ⟨hs.mem.below, hs.mem.base_le, hs.mem.row, hs.mem.lt, hs.mem.inj, Nat.le_refl _, fun _ _ => rfl⟩⟩
theorem Sat.unat {C : Ctx} {st st' : St} {β' : Nat → Nat} {a' : Act} {w' : World} (hs : Sat C.base C.w0 st β a w) (h : Sat (C.at β st.next).base (C.at β st.next).w0 st' β' a' w') : Sat C.base C.w0 st' β' a' w' :=
  ⟨h.defers, h.size, h.slot, ⟨h.mem.below, h.mem.base_le, h.mem.row, h.mem.lt, h.mem.inj, Nat.le_trans hs.mem.n0 h.mem.n0, fun i hi => (h.mem.ext i (Nat.lt_of_lt_of_le hi hs.mem.n0)).trans (hs.mem.ext i hi)⟩⟩
theorem wpX_sound {C : Ctx} (hE : EnvOK C.P C.E) {ro : List (Nat × Bool × SRow)} (hro : ∀ i o r, get ro i = some (o, r) → r.ok C.w0.n0 ∧ i < C.w0.n0) {all : List Oper} (hsel : Region.noSelect all.toArray = true) : ∀ (f : Nat) (ls : List Bool) (st : St) (β : Nat → Nat) (a : Act) (w : World) (K : St → Prop), wpX C ro all f ls st K → Sat C.base C.w0 st β a w → (∀ i x, get ro i = some x → get st.rows i = some x) → ∀ m, ls.count false ≤ m →
    wpAnyH C.P .any all.toArray (fun e a w => e = .normal ∧ ∃ st' β', K st' ∧ Sat C.base C.w0 st' β' a w) (fun w => Held C.base C.w0 ro w) m ls.toArray a w
  | 0, _, _, _, _, _, _, h, _, _, _, _ => h.elim
  | f + 1, ls, st, β, a, w, K, h, hs, hkp, m, hm => by
    have hheld : Held C.base C.w0 ro w := hs.held hro hkp
    have hsplit : ∀ t v, a.tmps.getD t undef = v.den β → br v (wpX C ro all f ls (st.put t (.lit true)) K) (wpX C ro all f ls (st.put t (.lit false)) K) → wpAnyH C.P .any all.toArray (fun e a w => e = .normal ∧ ∃ st' β', K st' ∧ Sat C.base C.w0 st' β' a w) (fun w => Held C.base C.w0 ro w) m ls.toArray a w := fun t v e0 h => by
      obtain ⟨b, e1, ht, hf⟩ := br_sound (β := β) h
      have e2 := e0.trans e1
      cases b with
      | true => exact wpX_sound hE hro hsel f ls _ β a w K (ht rfl) (hs.know (v := .lit true) e2 trivial) hkp m hm
      | false => exact wpX_sound hE hro hsel f ls _ β a w K (hf rfl) (hs.know (v := .lit false) e2 trivial) hkp m hm
    simp only [wpX] at h
    cases hp : pickX C ro all ls st.fr all 0 with
    | some p =>
      obtain ⟨i, o⟩ := p
      simp only [hp] at h
      obtain ⟨j, e0, ho, hrd, htk⟩ := pick_spec all 0 hp
      obtain rfl : i = j := by omega
      have hmem := (rdyB_spec ho).1 hrd
      have hun : ls[i]? = some false := count_lt (by have := (mem_ready.1 hmem).1; rwa [getD_list] at this)
      have hcnt := count_set ls i hun
      obtain ⟨m, rfl⟩ : ∃ m', m = m' + 1 := ⟨m - 1, by omega⟩
      have first : ∀ {v : Value}, freeB all ls o i all 0 = true → YieldsIf C.P all.toArray (fun w => Held C.base C.w0 ro w) o v a →
          wpAnyH C.P .any all.toArray (fun e a w => e = .normal ∧ ∃ st' β', K st' ∧ Sat C.base C.w0 st' β' a w) (fun w => Held C.base C.w0 ro w) m (ls.set i true).toArray (a.put o.dst v) w →
          wpAnyH C.P .any all.toArray (fun e a w => e = .normal ∧ ∃ st' β', K st' ∧ Sat C.base C.w0 st' β' a w) (fun w => Held C.base C.w0 ro w) (m + 1) ls.toArray a w := fun hfr hy hn => by
        refine wpAnyH_first (oi := o) (by simpa using ho) (Region.noSelect_spec hsel) (fun c a w h => by cases h.1) m _ a w (fun j oj hj hne hu hno => ?_) hmem hy hheld (by rw [set_list]; exact hn)
        exact freeB_spec all 0 hfr j oj (by simpa using hj) (by omega) (by rw [getD_list] at hu; simpa using hu) hno
      cases hg : guardX all st.fr o.guard with
      | bad => simp only [hg] at h
      | split t v => simp only [hg] at h; exact hsplit t v (guardX_split hs hg) h
      | skip =>
        simp only [hg] at h
        simp only [takeB, hg] at htk
        refine first (v := undef) htk (.inr ⟨guardX_skip hs hg, rfl⟩) ?_
        unfold putO at h
        cases hd : o.dst with
        | none =>
          simp only [hd] at h
          exact wpX_sound hE hro hsel f (ls.set i true) st β a w K h hs hkp m (by omega)
        | some d =>
          simp only [hd] at h
          obtain ⟨st', ⟨hK, hkp'⟩, hs'⟩ := putD_sound hs (v := .tup []) trivial (putD_keep hkp h)
          exact wpX_sound hE hro hsel f _ st' β _ w K hK hs' hkp' m (by omega)
      | go =>
        simp only [hg] at h
        have hfr : freeB all ls o i all 0 = true := by
          simp only [takeB, hg] at htk
          cases h1 : rawD C o.dst with
          | true => rw [h1] at htk; cases htk
          | false =>
            simp only [h1] at htk
            cases h2 : pureOp st.fr o.op || loadB ro st.fr o.op with
            | true => rw [h2] at htk; exact htk
            | false => rw [h2] at htk; cases htk
        obtain ⟨fr, rows, nx, n⟩ := st
        obtain ⟨v, hK, hok, hr⟩ := evVal_sound hE (rows := ro) (Sat.someRows (rows := rows) hs hkp) h
        obtain ⟨st', ⟨hK', hkp'⟩, hs'⟩ := putD_sound hs hok (putD_keep hkp hK)
        refine first (v := v.den β) hfr (.inl ⟨guardX_go hs hg, fun w' hw' => hr w' ⟨hw'.1, fun i o r hi => ?_⟩⟩) ?_
        · obtain ⟨hi0, hi1⟩ := hro i o r hi
          have e0 : β i = C.w0.β0 i := hs.mem.ext i hi1
          rw [e0]
          exact RowIs_ext (n := C.w0.n0) (fun q hq => hs.mem.ext q hq) hi0 (hw'.2 i o r hi)
        exact wpX_sound hE hro hsel f _ st' β _ w K hK' hs' hkp' m (by omega)
    | none =>
      simp only [hp] at h
      cases hn : noneX ls with
      | true =>
        simp only [hn] at h
        refine wpAnyH_done ?_ ⟨rfl, st, β, h, hs⟩ m
        apply List.eq_nil_iff_forall_not_mem.2
        intro i hi
        have := (mem_ready.1 hi).1
        rw [getD_list, none_spec ls hn i] at this
        cases this
      | false =>
        simp only [hn] at h
        cases hso : someX ls all 0 with
        | false => simp only [hso] at h
        | true =>
          simp only [hso] at h
          obtain ⟨j0, o0, h1, h2⟩ := some_spec all 0 hso
          rw [Nat.zero_add] at h2
          have hm0 := (rdyB_spec h1).1 h2
          have hun : ls[j0]? = some false := count_lt (by have := (mem_ready.1 hm0).1; rwa [getD_list] at this)
          have hcnt := count_set ls j0 hun
          obtain ⟨m, rfl⟩ : ∃ m', m = m' + 1 := ⟨m - 1, by omega⟩
          refine wpAnyH_all rfl (fun e => by rw [e] at hm0; cases hm0) (fun i hi => ?_)
          obtain ⟨hun', o, ho, _⟩ := mem_ready.1 hi
          have ho' : all[i]? = some o := by simpa using ho
          have hr := (rdyB_spec ho').2 hi
          obtain ⟨hg, hst⟩ := exp_spec all 0 h i o ho' (by rw [Nat.zero_add]; exact hr)
          rw [Nat.zero_add] at hst
          have hcnt' := count_set ls i (count_lt (by rwa [getD_list] at hun'))
          unfold wpOp
          simp only [ho]
          rw [if_pos (guardX_go hs hg)]
          left
          refine stepX_sound hE hs hst (fun st' β' a' w' hK hs' => ?_)
          obtain ⟨hkp', hK⟩ := keepR_spec _ hK
          refine ⟨hs'.held hro hkp', ?_⟩
          rw [set_list]
          exact wpX_sound hE hro hsel f _ st' β' a' w' K hK hs' hkp' m (by omega)
theorem regionX_sound {C : Ctx} (hE : EnvOK C.P C.E) {ro : List (Nat × Bool × SRow)} (hro : ∀ i o r, get ro i = some (o, r) → r.ok C.w0.n0 ∧ i < C.w0.n0) {l : List Oper} {st : St} {K : St → Prop} {id : Nat} (hsel : Region.noSelect l.toArray = true) (h : wpX C ro l 1000 (l.map fun _ => false) st K) (hs : Sat C.base C.w0 st β a w) (hkp : ∀ i x, get ro i = some x → get st.rows i = some x) {Q : Exit → Act → World → Prop}
    (hQ : ∀ st' β' a' w', K st' → Sat C.base C.w0 st' β' a' w' → Q .normal a' w') : (Code.region id ⟨l⟩ true).wp C.P Q a w := by
  refine wp_mono (Q' := Q) (wp_region_held (S := fun w => Held C.base C.w0 ro w) (Q := fun e a w => e = .normal ∧ ∃ st' β', K st' ∧ Sat C.base C.w0 st' β' a w) (env_mixed hE) ?_) ?_
  · have := wpX_sound hE hro hsel 1000 _ st β a { w with drawn := w.drawn + 1 } K h (hs.world hs.mem.drew) hkp l.length (by simpa using List.count_le_length (a := false) (l := l.map fun _ => false))
    have e : (l.map fun _ => false).toArray = Array.replicate l.length false := by
      apply Array.toList_inj.1; simp [List.map_const']
    rw [e] at this
    exact this
  · rintro e a' w' ⟨rfl, st', β', hK, hs'⟩
    exact hQ _ _ _ _ hK hs'
theorem allBe {p : (Nat → Nat) → Prop} (h : ∀ βe, p βe) : AllBe p := by unfold AllBe; exact h
theorem regionY_sound {C : Ctx} (hE : EnvOK C.P C.E) {l : List Oper} {st : St} {K : St → Prop} {id : Nat} (hsel : Region.noSelect l.toArray = true) (h : wpY C l st K) (hs : Sat C.base C.w0 st β a w) {Q : Exit → Act → World → Prop}
    (hQ : ∀ st' β' a' w', K st' → Sat C.base C.w0 st' β' a' w' → Q .normal a' w') : (Code.region id ⟨l⟩ true).wp C.P Q a w := by
  unfold wpY AllBe at h
  obtain ⟨ro, hK, hkp⟩ := roF_spec _ _ _ (h β)
  refine regionX_sound (C := C.at β st.next) hE (ro := ro) (fun i o r hi => ?_) hsel hK hs.at (fun i x hi => (hkp i x hi).1) (fun st' β' a' w' h1 h2 => hQ st' β' a' w' h1 (hs.unat h2))
  obtain ⟨-, k2, k3, -⟩ := hs.mem.row i o r (hkp _ _ hi).1
  exact ⟨k2, k3⟩
/-- a call whose answer is known -/
theorem callX {C : Ctx} {d : Nat} {f : FuncId} {args : List SV} {fr : List (Nat × SV)} {rows : List (Nat × Bool × SRow)} {nx n : Nat} {K : St → Prop} (v : SV)
    (he : entersB C.P f = true) (hd : Nat.blt d n = true) (hv : v.ok nx) (hc : ∀ β w, Mem C.base C.w0 rows nx β w → Calls C.P f (SV.dens β args).toArray w fun e w' => e = .returned (v.den β) ∧ Below w.heap.size w w')
    (h : K ⟨(d, v) :: fr, rows, nx, n⟩) : CallX C (some d) f args ⟨fr, rows, nx, n⟩ K := by
  unfold CallX
  refine ⟨he, fun β a w hs => (hc β w hs.mem).mono ?_⟩
  rintro e w' ⟨rfl, hb⟩
  have hs' : Sat C.base C.w0 ⟨fr, rows, nx, n⟩ β a w' := ⟨hs.defers, hs.size, hs.slot, hs.mem.belowNext hb⟩
  exact ⟨_, _, β, rfl, h, hs'.put (by simpa [Nat.blt_eq] using hd) hv⟩
end
end Sym
end Go.Proofs.YtfodbfbljeeojaaGreatDoor
