/- A walk that reckons: regions that draw their order and make blocks or call, walked order by order (what asks nothing of the world comes first). A walk that reckons: the walk is so; functions, loops, ways that meet. A walk that reckons: operations by lemma; steps of rows and columns as an argument. A walk that reckons: slices of the function's own: made, appended to, read. A walk that reckons: more operations: quotients, bytes as strings, values by any lemma, calls that make a slice. A walk that reckons: slices of the function's own, of elements of any size. A walk that reckons: a builder of strings of the function's own; a new beginning in the midst of a walk. A walk that reckons: a scope through which the run goes without a jump. -/
import Derived.Test.YtmodjglbjempkaaGreatDoorHSz3
import Derived.OrdersHeld
import Derived.Deep.Slices
import Derived.Maps.AppendAt
import Derived.Lib.FrozenHead
import Derived.Scope
set_option linter.unusedSimpArgs false
set_option linter.unusedVariables false
namespace Go.Proofs.YtmodjglbjempkaaGreatDoor
open Go.RowKit
namespace Sym
section
variable {β : Nat → Nat} {a : Act} {w : World}
theorem stepX_sound {C : Ctx} (hE : EnvOK C.P C.E) {o : Oper} {st : St} {K : St → Prop} (hs : Sat C.base C.w0 st β a w) (h : stepX C o st K) {next : Act → World → Prop} {Q : Exit → Act → World → Prop}
    (hn : ∀ st' β' a' w', K st' → Sat C.base C.w0 st' β' a' w' → next a' w') : o.wp C.P a w next Q := by
  unfold stepX at h
  split at h
  · rename_i dst fo args tys ty pos after g
    cases hfo : ev st.fr fo with
    | none => simp only [hfo] at h
    | some u =>
      cases u <;> simp only [hfo] at h
      case fn fid cs =>
        obtain ⟨vs, hc, e⟩ := evs_sound hs _ _ h
        obtain ⟨ef, _⟩ := ev_sound hs hfo
        unfold CallX at hc
        have hcc := hc.2 β a w hs
        unfold Oper.wp
        have hr : (execOp a.eval ⟨dst, .call ⟨.value fo, ⟨args⟩, tys⟩, ty, pos, after, g⟩).run C.P w = .ok (.enter fid (SV.dens β (vs ++ cs)).toArray) w := by
          simp only [execOp, resolve, ef, SV.den, Deferred.ofValue, Sem.run_bind, Sem.run_pure, Result.andThen_ok, invoke]
          have e2 : (#[] ++ Array.map a.eval ⟨args⟩ ++ (SV.dens β cs).toArray : Array Value) = (SV.dens β (vs ++ cs)).toArray := by
            rw [SV.dens_append, ← e]; simp
          rw [e2]
          exact enters_b hc.1 _ _
        rw [hr]
        refine hcc.mono ?_
        rintro e w' ⟨v, st', β', rfl, hK, hs'⟩
        exact hn _ _ _ _ hK hs'
  · rename_i dst op ty pos after g _
    cases hr : rawB C st.fr dst op with
    | true =>
      rw [hr] at h
      simp only at h
      unfold OpX at h
      exact h β a w hs next Q hn
    | false =>
      rw [hr] at h
      obtain ⟨st', β', a', w', hK, hs', hg⟩ := evOp_sound hE hs h
      exact hg _ _ (hn _ _ _ _ hK hs')
theorem getD_list {ls : List Bool} {i : Nat} {d : Bool} : ls.toArray.getD i d = ls.getD i d := by
  rw [Array.getD_eq_getD_getElem?, List.getD_eq_getElem?_getD]; simp
theorem set_list {ls : List Bool} {i : Nat} : ls.toArray.setIfInBounds i true = (ls.set i true).toArray := by
  apply Array.toList_inj.1; simp
theorem rdyB_spec {all : List Oper} {ls : List Bool} {i : Nat} {o : Oper} (ho : all[i]? = some o) : rdyB ls i o = true ↔ i ∈ Region.ready .any all.toArray ls.toArray := by
  rw [mem_ready]
  unfold rdyB
  simp only [Bool.and_eq_true, Bool.not_eq_true', List.all_eq_true, Bool.or_eq_true]
  constructor
  · rintro ⟨h1, h2⟩
    refine ⟨by rw [getD_list]; exact h1, o, by simpa using ho, fun e he hb => ?_⟩
    rcases h2 e (by simpa using he) with h3 | h3
    · rw [hb] at h3; cases h3
    · rw [getD_list]; exact h3
  · rintro ⟨h1, o', ho', h2⟩
    have : o' = o := by
      have h3 : all[i]? = some o' := by simpa using ho'
      rw [ho] at h3; cases h3; rfl
    subst this
    refine ⟨by rw [getD_list] at h1; exact h1, fun e he => ?_⟩
    cases hb : Region.binds .any e
    · exact .inl rfl
    · right
      have := h2 e (by simpa using he) hb
      rw [getD_list] at this; exact this
theorem freeB_spec {all : List Oper} {ls : List Bool} {oi : Oper} {i : Nat} : ∀ (l : List Oper) (k : Nat), freeB all ls oi i l k = true → ∀ j oj, l[j]? = some oj → k + j ≠ i → ls.getD (k + j) true = false → (∀ e ∈ oj.after, Region.binds .any e = true → e.on ≠ i) → oi.apart all.toArray oj = true
  | [], _, _, j, oj, h, _, _, _ => by simp at h
  | o :: r, k, h, j, oj, hj, hne, hun, hno => by
    simp only [freeB, Bool.and_eq_true] at h
    obtain ⟨h1, h2⟩ := h
    cases j with
    | zero =>
      simp only [List.getElem?_cons_zero, Option.some.injEq] at hj
      subst hj
      simp only [Bool.or_eq_true] at h1
      rcases h1 with h1 | h1 | h1 | h1
      · exact absurd (Nat.eq_of_beq_eq_true h1) (by simpa using hne)
      · have : ls.getD k true = false := hun
        rw [this] at h1; cases h1
      · obtain ⟨e, he, hb⟩ := List.any_eq_true.1 h1
        simp only [Bool.and_eq_true] at hb
        exact absurd (Nat.eq_of_beq_eq_true hb.2) (hno e (by simpa using he) hb.1)
      · exact h1
    | succ j =>
      have e1 : k + (j + 1) = k + 1 + j := by omega
      rw [e1] at hne hun
      exact freeB_spec r (k + 1) h2 j oj (by simpa using hj) hne hun hno
theorem pick_spec {C : Ctx} {all : List Oper} {ls : List Bool} {fr : List (Nat × SV)} {i : Nat} {o : Oper} : ∀ (l : List Oper) (k : Nat), pickX C all ls fr l k = some (i, o) → ∃ j, i = k + j ∧ l[j]? = some o ∧ rdyB ls i o = true ∧ takeB C all ls fr i o = true
  | [], _, h => by simp [pickX] at h
  | x :: r, k, h => by
    unfold pickX at h
    have go : pickX C all ls fr r (k + 1) = some (i, o) → ∃ j, i = k + j ∧ (x :: r)[j]? = some o ∧ rdyB ls i o = true ∧ takeB C all ls fr i o = true := fun h => by
      obtain ⟨j, h1, h2, h3⟩ := pick_spec r (k + 1) h
      exact ⟨j + 1, by omega, by simpa using h2, h3⟩
    cases h1 : rdyB ls k x with
    | false => rw [h1] at h; exact go h
    | true =>
      rw [h1] at h
      cases h2 : takeB C all ls fr k x with
      | false => simp only [h2] at h; exact go h
      | true =>
        simp only [h2, Option.some.injEq, Prod.mk.injEq] at h
        obtain ⟨rfl, rfl⟩ := h
        exact ⟨0, by omega, by simp, h1, h2⟩
theorem some_spec {ls : List Bool} : ∀ (l : List Oper) (k : Nat), someX ls l k = true → ∃ j o, l[j]? = some o ∧ rdyB ls (k + j) o = true
  | [], _, h => by simp [someX] at h
  | x :: r, k, h => by
    unfold someX at h
    cases h1 : rdyB ls k x with
    | true => exact ⟨0, x, by simp, h1⟩
    | false =>
      rw [h1] at h
      obtain ⟨j, o, h2, h3⟩ := some_spec r (k + 1) h
      exact ⟨j + 1, o, by simpa using h2, by rw [show k + (j + 1) = k + 1 + j by omega]; exact h3⟩
theorem bothI {p q : Prop} (hp : p) (hq : q) : bothX p q := by unfold bothX; exact ⟨hp, hq⟩
theorem exp_spec {all : List Oper} {ls : List Bool} {fr : List (Nat × SV)} {T : Nat → Oper → Prop} : ∀ (l : List Oper) (k : Nat), expX all ls fr T l k → ∀ j o, l[j]? = some o → rdyB ls (k + j) o = true → (guardX all fr o.guard = .go) ∧ T (k + j) o
  | [], _, _, j, o, h, _ => by simp at h
  | x :: r, k, h, j, o, hj, hr => by
    unfold expX at h
    cases h1 : rdyB ls k x with
    | false =>
      rw [h1] at h
      cases j with
      | zero => simp only [List.getElem?_cons_zero, Option.some.injEq] at hj; subst hj; rw [show k + 0 = k by omega, h1] at hr; cases hr
      | succ j =>
        have := exp_spec r (k + 1) h j o (by simpa using hj) (by rw [show k + 1 + j = k + (j + 1) by omega]; exact hr)
        rw [show k + (j + 1) = k + 1 + j by omega]; exact this
    | true =>
      rw [h1] at h
      cases hg : guardX all fr x.guard <;> simp only [hg] at h
      unfold bothX at h
      obtain ⟨h2, h3⟩ := h
      cases j with
      | zero => simp only [List.getElem?_cons_zero, Option.some.injEq] at hj; subst hj; exact ⟨hg, h2⟩
      | succ j =>
        have := exp_spec r (k + 1) h3 j o (by simpa using hj) (by rw [show k + 1 + j = k + (j + 1) by omega]; exact hr)
        rw [show k + (j + 1) = k + 1 + j by omega]; exact this
theorem none_spec : ∀ (ls : List Bool), noneX ls = true → ∀ i, ls.getD i true = true
  | [], _, i => by simp
  | b :: r, h, i => by
    unfold noneX at h
    cases b with
    | false => cases h
    | true =>
      cases i with
      | zero => rfl
      | succ i => have := none_spec r h i; simpa using this
/-- what a guard says -/
theorem guardX_go {st : St} {base : Nat} {w0 : Base} (hs : Sat base w0 st β a w) {all : List Oper} {o : Oper} (h : guardX all st.fr o.guard = .go) : Region.wanted o (yielded all.toArray a.tmps) = true := by
  obtain ⟨dst, op, ty, pos, after, g⟩ := o
  cases g with
  | none => rfl
  | some p =>
    obtain ⟨j, want⟩ := p
    simp only [guardX] at h
    cases hg : guardV all st.fr j with
    | none => simp only [hg] at h; cases h
    | some q =>
      obtain ⟨t, v⟩ := q
      obtain ⟨y1, y2⟩ := guard_sound hs hg
      simp only [hg] at h
      cases v with
      | lit b =>
        simp only at h
        cases hb : b == want with
        | false => rw [hb] at h; cases h
        | true =>
          simp only [Region.wanted, y1 b rfl]
          cases b <;> cases want <;> first | rfl | cases hb
      | _ => cases h
theorem guardX_skip {st : St} {base : Nat} {w0 : Base} (hs : Sat base w0 st β a w) {all : List Oper} {o : Oper} (h : guardX all st.fr o.guard = .skip) : Region.wanted o (yielded all.toArray a.tmps) = false := by
  obtain ⟨dst, op, ty, pos, after, g⟩ := o
  cases g with
  | none => cases h
  | some p =>
    obtain ⟨j, want⟩ := p
    simp only [guardX] at h
    cases hg : guardV all st.fr j with
    | none => simp only [hg] at h; cases h
    | some q =>
      obtain ⟨t, v⟩ := q
      obtain ⟨y1, y2⟩ := guard_sound hs hg
      simp only [hg] at h
      cases v with
      | lit b =>
        simp only at h
        cases hb : b == want with
        | true => rw [hb] at h; cases h
        | false =>
          simp only [Region.wanted, y1 b rfl]
          cases b <;> cases want <;> first | rfl | cases hb
      | tup vs => simp only [Region.wanted, y2 (fun b e => by simp [SV.den] at e)]; rfl
      | _ => cases h
theorem guardX_split {st : St} {base : Nat} {w0 : Base} (hs : Sat base w0 st β a w) {all : List Oper} {o : Oper} {t : Nat} {v : SV} (h : guardX all st.fr o.guard = .split t v) : a.tmps.getD t undef = v.den β := by
  obtain ⟨dst, op, ty, pos, after, g⟩ := o
  cases g with
  | none => cases h
  | some p =>
    obtain ⟨j, want⟩ := p
    simp only [guardX] at h
    cases hg : guardV all st.fr j with
    | none => simp only [hg] at h; cases h
    | some q =>
      obtain ⟨t', v'⟩ := q
      have e := guard_slot hs hg
      simp only [hg] at h
      cases v' with
      | lit b =>
        simp only at h
        cases hb : b == want <;> rw [hb] at h <;> cases h
      | tup vs => cases h
      | _ => cases h; exact e
theorem count_lt {ls : List Bool} {i : Nat} (h : ls.getD i true = false) : ls[i]? = some false := by
  rw [List.getD_eq_getElem?_getD] at h
  cases hg : ls[i]? with
  | none => rw [hg] at h; cases h
  | some b => rw [hg] at h; simpa using h
theorem Sat.noRows {st : St} {base : Nat} {w0 : Base} {fr : List (Nat × SV)} {rows : List (Nat × Bool × SRow)} {nx n : Nat} (hs : Sat base w0 ⟨fr, rows, nx, n⟩ β a w) : Sat base w0 ⟨fr, [], nx, n⟩ β a w := ⟨hs.defers, hs.size, hs.slot, hs.mem.nil⟩
theorem wpX_sound {C : Ctx} (hE : EnvOK C.P C.E) {all : List Oper} (hsel : Region.noSelect all.toArray = true) : ∀ (f : Nat) (ls : List Bool) (st : St) (β : Nat → Nat) (a : Act) (w : World) (K : St → Prop), wpX C all f ls st K → Sat C.base C.w0 st β a w → ∀ m, ls.count false ≤ m →
    wpAnyH C.P .any all.toArray (fun e a w => e = .normal ∧ ∃ st' β', K st' ∧ Sat C.base C.w0 st' β' a w) (fun w => Below C.base C.w0.w w) m ls.toArray a w
  | 0, _, _, _, _, _, _, h, _, _, _ => h.elim
  | f + 1, ls, st, β, a, w, K, h, hs, m, hm => by
    have hsplit : ∀ t v, a.tmps.getD t undef = v.den β → br v (wpX C all f ls (st.put t (.lit true)) K) (wpX C all f ls (st.put t (.lit false)) K) → wpAnyH C.P .any all.toArray (fun e a w => e = .normal ∧ ∃ st' β', K st' ∧ Sat C.base C.w0 st' β' a w) (fun w => Below C.base C.w0.w w) m ls.toArray a w := fun t v e0 h => by
      obtain ⟨b, e1, ht, hf⟩ := br_sound (β := β) h
      have e2 := e0.trans e1
      cases b with
      | true => exact wpX_sound hE hsel f ls _ β a w K (ht rfl) (hs.know (v := .lit true) e2 trivial) m hm
      | false => exact wpX_sound hE hsel f ls _ β a w K (hf rfl) (hs.know (v := .lit false) e2 trivial) m hm
    simp only [wpX] at h
    cases hp : pickX C all ls st.fr all 0 with
    | some p =>
      obtain ⟨i, o⟩ := p
      simp only [hp] at h
      obtain ⟨j, e0, ho, hrd, htk⟩ := pick_spec all 0 hp
      obtain rfl : i = j := by omega
      have hmem := (rdyB_spec ho).1 hrd
      have hun : ls[i]? = some false := count_lt (by have := (mem_ready.1 hmem).1; rwa [getD_list] at this)
      have hcnt := count_set ls i hun
      obtain ⟨m, rfl⟩ : ∃ m', m = m' + 1 := ⟨m - 1, by omega⟩
      have first : ∀ {v : Value}, freeB all ls o i all 0 = true → YieldsIf C.P all.toArray (fun w => Below C.base C.w0.w w) o v a →
          wpAnyH C.P .any all.toArray (fun e a w => e = .normal ∧ ∃ st' β', K st' ∧ Sat C.base C.w0 st' β' a w) (fun w => Below C.base C.w0.w w) m (ls.set i true).toArray (a.put o.dst v) w →
          wpAnyH C.P .any all.toArray (fun e a w => e = .normal ∧ ∃ st' β', K st' ∧ Sat C.base C.w0 st' β' a w) (fun w => Below C.base C.w0.w w) (m + 1) ls.toArray a w := fun hfr hy hn => by
        refine wpAnyH_first (oi := o) (by simpa using ho) (Region.noSelect_spec hsel) (fun c a w h => by cases h.1) m _ a w (fun j oj hj hne hu hno => ?_) hmem hy hs.mem.below (by rw [set_list]; exact hn)
        exact freeB_spec all 0 hfr j oj (by simpa using hj) (by omega) (by rw [getD_list] at hu; simpa using hu) hno
      cases hg : guardX all st.fr o.guard with
      | bad => simp only [hg] at h
      | split t v => simp only [hg] at h; exact hsplit t v (guardX_split hs hg) h
      | skip =>
        simp only [hg] at h
        simp only [takeB, hg] at htk
        refine first (v := undef) htk (.inr ⟨guardX_skip hs hg, rfl⟩) ?_
        unfold putO at h
        cases hd : o.dst with
        | none =>
          simp only [hd] at h
          exact wpX_sound hE hsel f (ls.set i true) st β a w K h hs m (by omega)
        | some d =>
          simp only [hd] at h
          obtain ⟨st', hK, hs'⟩ := putD_sound hs (v := .tup []) trivial h
          exact wpX_sound hE hsel f _ st' β _ w K hK hs' m (by omega)
      | go =>
        simp only [hg] at h
        have hfr : freeB all ls o i all 0 = true := by
          simp only [takeB, hg] at htk
          cases h1 : rawD C o.dst with
          | true => rw [h1] at htk; cases htk
          | false =>
            simp only [h1] at htk
            cases h2 : pureOp st.fr o.op with
            | true => rw [h2] at htk; exact htk
            | false => rw [h2] at htk; cases htk
        obtain ⟨fr, rows, nx, n⟩ := st
        obtain ⟨v, hK, hok, hr⟩ := evVal_sound hE (rows := []) (hs.noRows (st := ⟨fr, rows, nx, n⟩)) h
        obtain ⟨st', hK', hs'⟩ := putD_sound hs hok hK
        refine first (v := v.den β) hfr (.inl ⟨guardX_go hs hg, fun w' hw' => hr w' ⟨hw', fun i o r hi => by simp [get] at hi⟩⟩) ?_
        exact wpX_sound hE hsel f _ st' β _ w K hK' hs' m (by omega)
    | none =>
      simp only [hp] at h
      cases hn : noneX ls with
      | true =>
        simp only [hn] at h
        refine wpAnyH_done ?_ ⟨rfl, st, β, h, hs⟩ m
        apply List.eq_nil_iff_forall_not_mem.2
        intro i hi
        have := (mem_ready.1 hi).1
        rw [getD_list, none_spec ls hn i] at this
        cases this
      | false =>
        simp only [hn] at h
        cases hso : someX ls all 0 with
        | false => simp only [hso] at h
        | true =>
          simp only [hso] at h
          obtain ⟨j0, o0, h1, h2⟩ := some_spec all 0 hso
          rw [Nat.zero_add] at h2
          have hm0 := (rdyB_spec h1).1 h2
          have hun : ls[j0]? = some false := count_lt (by have := (mem_ready.1 hm0).1; rwa [getD_list] at this)
          have hcnt := count_set ls j0 hun
          obtain ⟨m, rfl⟩ : ∃ m', m = m' + 1 := ⟨m - 1, by omega⟩
          refine wpAnyH_all rfl (fun e => by rw [e] at hm0; cases hm0) (fun i hi => ?_)
          obtain ⟨hun', o, ho, _⟩ := mem_ready.1 hi
          have ho' : all[i]? = some o := by simpa using ho
          have hr := (rdyB_spec ho').2 hi
          obtain ⟨hg, hst⟩ := exp_spec all 0 h i o ho' (by rw [Nat.zero_add]; exact hr)
          rw [Nat.zero_add] at hst
          have hcnt' := count_set ls i (count_lt (by rwa [getD_list] at hun'))
          unfold wpOp
          simp only [ho]
          rw [if_pos (guardX_go hs hg)]
          left
          refine stepX_sound hE hs hst (fun st' β' a' w' hK hs' => ⟨hs'.mem.below, ?_⟩)
          rw [set_list]
          exact wpX_sound hE hsel f _ st' β' a' w' K hK hs' m (by omega)
theorem regionX_sound {C : Ctx} (hE : EnvOK C.P C.E) {l : List Oper} {st : St} {K : St → Prop} {id : Nat} (hsel : Region.noSelect l.toArray = true) (h : wpX C l 1000 (l.map fun _ => false) st K) (hs : Sat C.base C.w0 st β a w) {Q : Exit → Act → World → Prop}
    (hQ : ∀ st' β' a' w', K st' → Sat C.base C.w0 st' β' a' w' → Q .normal a' w') : (Code.region id ⟨l⟩ true).wp C.P Q a w := by
  refine wp_mono (Q' := Q) (wp_region_held (S := fun w => Below C.base C.w0.w w) (Q := fun e a w => e = .normal ∧ ∃ st' β', K st' ∧ Sat C.base C.w0 st' β' a w) (env_mixed hE) ?_) ?_
  · have := wpX_sound hE hsel 1000 _ st β a { w with drawn := w.drawn + 1 } K h (hs.world hs.mem.drew) l.length (by simpa using List.count_le_length (a := false) (l := l.map fun _ => false))
    have e : (l.map fun _ => false).toArray = Array.replicate l.length false := by
      apply Array.toList_inj.1; simp [List.map_const']
    rw [e] at this
    exact this
  · rintro e a' w' ⟨rfl, st', β', hK, hs'⟩
    exact hQ _ _ _ _ hK hs'
/-- a call whose answer is known -/
theorem callX {C : Ctx} {d : Nat} {f : FuncId} {args : List SV} {fr : List (Nat × SV)} {rows : List (Nat × Bool × SRow)} {nx n : Nat} {K : St → Prop} (v : SV)
    (he : entersB C.P f = true) (hd : Nat.blt d n = true) (hv : v.ok nx) (hc : ∀ β w, Mem C.base C.w0 rows nx β w → Calls C.P f (SV.dens β args).toArray w fun e w' => e = .returned (v.den β) ∧ Below w.heap.size w w')
    (h : K ⟨(d, v) :: fr, rows, nx, n⟩) : CallX C (some d) f args ⟨fr, rows, nx, n⟩ K := by
  unfold CallX
  refine ⟨he, fun β a w hs => (hc β w hs.mem).mono ?_⟩
  rintro e w' ⟨rfl, hb⟩
  have hs' : Sat C.base C.w0 ⟨fr, rows, nx, n⟩ β a w' := ⟨hs.defers, hs.size, hs.slot, hs.mem.belowNext hb⟩
  exact ⟨_, _, β, rfl, h, hs'.put (by simpa [Nat.blt_eq] using hd) hv⟩
end
end Sym
end Go.Proofs.YtmodjglbjempkaaGreatDoor
namespace Go.Proofs.YtmodjglbjempkaaGreatDoor
open Go.RowKit
namespace Sym
section
variable {β : Nat → Nat} {a : Act} {w : World}
/-- what the walk reckons is so -/
theorem wpS_sound {C : Ctx} (hE : EnvOK C.P C.E) (hres : C.fn.results = C.res.toArray) : ∀ (f : Nat) (k : List It) (st : St) (β : Nat → Nat) (a : Act) (w : World), wpS C f k st → Sat C.base C.w0 st β a w → contQ C.P C.Q k .normal a w
  | 0, k, st, β, a, w, h, hs => by simp only [wpS] at h; unfold StopN at h; exact h β a w hs
  | f + 1, [], st, β, a, w, h, hs => (retS_sound hE hres hs h).2
  | f + 1, .inBlk id :: k, st, β, a, w, h, hs => wpS_sound hE hres f k st β a w h hs
  | f + 1, .back I :: k, st, β, a, w, h, hs => by simp only [wpS] at h; unfold BackN at h; exact h β a w hs
  | f + 1, .ops all [] :: k, st, β, a, w, h, hs => wpS_sound hE hres f k st β a w h hs
  | f + 1, .ops all (⟨dst, op, ty, pos, after, g⟩ :: l) :: k, st, β, a, w, h, hs => by
    have goS : Region.wanted ⟨dst, op, ty, pos, after, g⟩ (yielded all.toArray a.tmps) = true → opS C all l k ⟨dst, op, ty, pos, after, g⟩ st (fun st' => wpS C f (.ops all l :: k) st') → contQ C.P C.Q (.ops all (⟨dst, op, ty, pos, after, g⟩ :: l) :: k) .normal a w := fun hw h => by
      show wpList C.P all.toArray (contQ C.P C.Q k) (⟨dst, op, ty, pos, after, g⟩ :: l) a w
      unfold wpList
      rw [if_pos hw]
      left
      exact opS_sound hE hs h (fun st' β' a' w' hK hs' => wpS_sound hE hres f _ st' β' a' w' hK hs')
    have skS : Region.wanted ⟨dst, op, ty, pos, after, g⟩ (yielded all.toArray a.tmps) = false → putD dst (.tup []) st (fun st' => wpS C f (.ops all l :: k) st') → contQ C.P C.Q (.ops all (⟨dst, op, ty, pos, after, g⟩ :: l) :: k) .normal a w := fun hw h => by
      show wpList C.P all.toArray (contQ C.P C.Q k) (⟨dst, op, ty, pos, after, g⟩ :: l) a w
      unfold wpList
      rw [if_neg (by rw [hw]; simp)]
      obtain ⟨st', hK, hs'⟩ := putD_sound hs (v := .tup []) trivial h
      exact wpS_sound hE hres f _ st' β _ w hK hs'
    simp only [wpS] at h
    cases g with
    | none => exact goS rfl h
    | some p =>
      obtain ⟨j, want⟩ := p
      cases hg : guardV all st.fr j with
      | none => simp only [hg] at h
      | some q =>
        obtain ⟨t, v⟩ := q
        obtain ⟨y1, y2⟩ := guard_sound hs hg
        simp only [hg] at h
        have lits : ∀ b, v.den β = .bool b → yielded all.toArray a.tmps j = some b := y1
        have hwant : ∀ b, v.den β = .bool b → Region.wanted ⟨dst, op, ty, pos, after, some (j, want)⟩ (yielded all.toArray a.tmps) = (b == want) := fun b e => by
          simp only [Region.wanted, lits b e]; cases b <;> cases want <;> rfl
        have split : br v (wpS C f (.ops all (⟨dst, op, ty, pos, after, some (j, want)⟩ :: l) :: k) (st.put t (.lit true))) (wpS C f (.ops all (⟨dst, op, ty, pos, after, some (j, want)⟩ :: l) :: k) (st.put t (.lit false))) → contQ C.P C.Q (.ops all (⟨dst, op, ty, pos, after, some (j, want)⟩ :: l) :: k) .normal a w := fun h => by
          obtain ⟨b, e1, ht, hf⟩ := br_sound (β := β) h
          have e0 := (guard_slot hs hg).trans e1
          cases b with
          | true => exact wpS_sound hE hres f _ _ β a w (ht rfl) (hs.know (v := .lit true) e0 trivial)
          | false => exact wpS_sound hE hres f _ _ β a w (hf rfl) (hs.know (v := .lit false) e0 trivial)
        cases v with
        | lit b =>
          simp only at h
          cases hb : b == want with
          | true => rw [hb] at h; exact goS ((hwant b rfl).trans hb) h
          | false => rw [hb] at h; exact skS ((hwant b rfl).trans hb) h
        | tup vs => exact skS (by simp only [Region.wanted, y2 (fun b e => by simp [SV.den] at e)]; rfl) h
        | bool b => exact split h
        | prop p hp => exact split h
        | _ => exact (split h)
  | f + 1, .code c :: k, st, β, a, w, h, hs => by
    show c.wp C.P (contQ C.P C.Q k) a w
    cases c <;> simp only [wpS] at h
    case skip => exact wp_skip (wpS_sound hE hres f k st β a w h hs)
    case label l => exact wp_label (wpS_sound hE hres f k st β a w h hs)
    case seq x y => exact wp_seq (wpS_sound hE hres f (.code x :: .code y :: k) st β a w h hs)
    case cond c x y =>
      split at h
      · unfold StopN at h; exact h β a w hs
      cases hc : ev st.fr c with
      | none => simp only [hc] at h
      | some v =>
        simp only [hc] at h
        obtain ⟨e, _⟩ := ev_sound hs hc
        obtain ⟨b, e1, ht, hf⟩ := br_sound (β := β) h
        refine wp_cond_split (e.trans e1) (fun hb => wpS_sound hE hres f (.code x :: k) st β a w (ht hb) hs) (fun hb => wpS_sound hE hres f (.code y :: k) st β a w (hf hb) hs)
    case block id c =>
      split at h
      · unfold StopN at h; exact h β a w hs
      exact wp_block (wpS_sound hE hres f (.code c :: .inBlk id :: k) st β a w h hs)
    case exit id =>
      cases hp : popTo id k with
      | none => simp only [hp] at h
      | some k' =>
        simp only [hp] at h
        exact wp_exit (by rw [contQ_exit _ _ _ _ _ _ _ hp]; exact wpS_sound hE hres f k' st β a w h hs)
    case ret => exact wp_ret (by rw [contQ_ret]; exact (retS_sound hE hres hs h).1)
    case region id ops draw =>
      obtain ⟨l⟩ := ops
      cases draw with
      | false => exact wp_region_lit (wpS_sound hE hres f (.ops l l :: k) st β a w h hs)
      | true =>
        simp only at h
        have hX : (Region.noSelect l.toArray = true ∧ wpX C l 1000 (l.map fun _ => false) st (fun st' => wpS C f k st')) → (Code.region id ⟨l⟩ true).wp C.P (contQ C.P C.Q k) a w := fun h =>
          regionX_sound hE h.1 h.2 hs (fun st' β' a' w' hK hs' => wpS_sound hE hres f k st' β' a' w' hK hs')
        cases hsb : mem (id + 100000) C.sb with
        | true => simp only [hsb] at h; exact hX h
        | false =>
        simp only [hsb] at h
        cases hq : qOps l with
        | false =>
          simp only [hq] at h
          cases hd : dOps l with
          | false => simp only [hd] at h; exact hX h
          | true =>
            simp only [hd] at h
            exact region_sound hE h hs (fun st' a' w' hK hs' => wpS_sound hE hres f k st' β a' w' hK hs')
        | true =>
          simp only [hq] at h
          obtain ⟨fr, rows, nx, n⟩ := st
          have := wpQ_sound (β := β) hE 1000 l fr a w h.2 hs
          refine wp_region_quiet (C := Mem C.base C.w0 rows nx β) (env_mixed hE) h.1 hs.mem.drew (wpQuiet_mono (fun a' ha' w' hw' => ?_) l a this)
          obtain ⟨st', hK, hs'⟩ := ha' w' hw'
          exact wpS_sound hE hres f k st' β _ w' hK hs'
    case loop c => unfold LoopN at h; exact h β a w hs
    case rangeFunc => unfold CodeN at h; exact h β a w hs
    case scope => unfold CodeN at h; exact h β a w hs
    case goto => unfold CodeN at h; exact h β a w hs
    case refuse => unfold CodeN at h; exact h β a w hs

def argSlots : Nat → List SV → List (Nat × SV)
  | _, [] => []
  | i, v :: r => (i, v) :: argSlots (i + 1) r
theorem argSlots_get {s : Nat} {v : SV} : ∀ (vs : List SV) (i : Nat), get (argSlots i vs) s = some v → i ≤ s ∧ vs[s - i]? = some v
  | [], i, h => by simp [argSlots, get] at h
  | u :: r, i, h => by
    simp only [argSlots, get_cons] at h
    by_cases e : i = s
    · rw [if_pos e] at h; cases h; subst e; simp
    · rw [if_neg e] at h
      obtain ⟨h1, h2⟩ := argSlots_get r (i + 1) h
      refine ⟨by omega, ?_⟩
      rw [show s - i = (s - (i + 1)) + 1 by omega]; simpa using h2
/-- a function is entered -/
theorem enter {P : Program} {E : Env} (hE : EnvOK P E) {f : FuncId} {fn : Func} {c : Code} {res : List ResultVar} {nt : Nat} (hf : P.funcs[f]? = some fn) (hb : fn.body = some c) (hres : fn.results = res.toArray) (hnt : fn.ntmps = nt)
    (sc sb : List Nat) (vs : List SV) (hv : SV.oks 0 vs) (hlen : vs.length ≤ nt) (w : World) (R : Ending → World → Prop) (fuel : Nat)
    (h : wpS ⟨P, E, w.heap.size, Base.of w, fn, res, R, sc, sb⟩ fuel [.code c] ⟨argSlots 0 vs, [], 0, nt⟩) : Calls P f (SV.dens (fun _ => 0) vs).toArray w R := by
  refine calls_of_wp hf hb ?_
  refine wpS_sound (C := ⟨P, E, w.heap.size, Base.of w, fn, res, R, sc, sb⟩) hE hres fuel [.code c] _ (fun _ => 0) _ w h ?_
  refine ⟨rfl, ?_, fun s v hs => ?_, ?_⟩
  · simp [SV.dens_len, hnt]; omega
  · obtain ⟨_, h2⟩ := argSlots_get vs 0 hs
    have h2 : vs[s]? = some v := by simpa using h2
    refine ⟨?_, SV.oks_get vs s v hv h2⟩
    have hs' : s < vs.length := (List.getElem?_eq_some_iff.1 h2).1
    rw [Array.getD_eq_getD_getElem?, Array.getElem?_append_left (by simpa [SV.dens_len] using hs')]
    simp [SV.dens_get, h2]
  · refine ⟨Below.refl _ _, Nat.le_refl _, fun i o r h => by simp [get] at h, fun i (h : i < 0) => by omega, fun i j r o r' h => by simp [get] at h, Nat.le_refl _, fun i (h : i < 0) => by omega⟩
/-- a call whose answer is known: what it makes is new, nothing else is touched -/
theorem call {C : Ctx} (hE : EnvOK C.P C.E) (hres : C.fn.results = C.res.toArray) {all l : List Oper} {k : List It} {d : Nat} {f : FuncId} {args : List SV} {fr : List (Nat × SV)} {rows : List (Nat × Bool × SRow)} {nx n : Nat} (v : SV) (fuel : Nat)
    (he : entersB C.P f = true) (hd : Nat.blt d n = true) (hv : v.ok nx) (hc : ∀ β w, Mem C.base C.w0 rows nx β w → Calls C.P f (SV.dens β args).toArray w fun e w' => e = .returned (v.den β) ∧ Below w.heap.size w w')
    (h : wpS C fuel (.ops all l :: k) ⟨(d, v) :: fr, rows, nx, n⟩) : CallN C all l k (some d) f args ⟨fr, rows, nx, n⟩ := by
  unfold CallN
  refine ⟨he, fun β a w hs => (hc β w hs.mem).mono ?_⟩
  rintro e w' ⟨rfl, hb⟩
  refine wpS_sound hE hres fuel (.ops all l :: k) _ β _ w' h ?_
  have hs' : Sat C.base C.w0 ⟨fr, rows, nx, n⟩ β a w' := ⟨hs.defers, hs.size, hs.slot, hs.mem.belowNext hb⟩
  exact hs'.put (by simpa [Nat.blt_eq] using hd) hv
theorem ret {C : Ctx} {st : St} {v : SV} (h : ∀ β w, Mem C.base C.w0 st.rows st.next β w → C.R (.returned (v.den β)) w) : RetN C st v := by
  unfold RetN; exact h

theorem quiet {P : Program} {f : FuncId} {args : Array Value} {v : Value} (h : Calls P f args w fun e w' => e = .returned v ∧ w = w') : Calls P f args w fun e w' => e = .returned v ∧ Below w.heap.size w w' :=
  h.mono fun _ _ ⟨he, hw⟩ => ⟨he, hw ▸ Below.refl _ _⟩

theorem retW {C : Ctx} {st : St} {v : SV} (h : ∀ β w', Below C.base C.w0.w w' → C.R (.returned (v.den β)) w') : RetN C st v := by
  unfold RetN; exact fun β w hm => h β w hm.below
/-- the post 'this value, and nothing old is touched' -/
theorem retB {P : Program} {E : Env} {w0 : World} {fn : Func} {res : List ResultVar} {V : Value} {st : St} {v : SV} {sc sb : List Nat} (h : ∀ β, v.den β = V) :
    RetN ⟨P, E, w0.heap.size, Base.of w0, fn, res, fun e w' => e = .returned V ∧ Below w0.heap.size w0 w', sc, sb⟩ st v := retW fun β w' hb => ⟨by rw [h β], hb⟩

mutual
theorem eqSV_sound (β : Nat → Nat) : ∀ (u v : SV), eqSV u v → u.den β = v.den β
  | .int k n, v, h => by
    cases v <;> simp only [eqSV] at h
    case int k' m =>
      cases hk : ikEq k k' with
      | false => rw [hk] at h; exact h.elim
      | true => rw [hk] at h; rw [ikEq_eq hk, show n = m from h]
  | .str s, v, h => by cases v <;> simp only [eqSV] at h; rw [h]
  | .ptr i o, v, h => by cases v <;> simp only [eqSV] at h; rw [h.1, h.2]
  | .fn s cs, v, h => by cases v <;> simp only [eqSV] at h; rw [h.1, h.2]
  | .any s, v, h => by cases v <;> simp only [eqSV] at h; rw [h]
  | .lit b, v, h => by cases v <;> simp only [eqSV, isB, bval, cond_true, cond_false] at h <;> first | exact h.elim | (subst h; rfl) | (rw [h]; rfl)
  | .bool b, v, h => by cases v <;> simp only [eqSV, isB, bval, cond_true, cond_false] at h <;> first | exact h.elim | (subst h; rfl) | (rw [h]; rfl)
  | .prop p hp, v, h => by cases v <;> simp only [eqSV, isB, bval, cond_true, cond_false] at h <;> first | exact h.elim | (simp only [SV.den]; rw [h])
  | .agg us, v, h => by
    cases v <;> first | (cases us <;> simp only [eqSV] at h; done) | skip
    case agg vs => simp only [SV.den]; rw [eqAgg_sound β us vs (.inl h)]
  | .tup us, v, h => by
    cases v <;> first | (cases us <;> simp only [eqSV] at h; done) | skip
    case tup vs => simp only [SV.den]; rw [eqAgg_sound β us vs (.inr h)]
theorem eqAgg_sound (β : Nat → Nat) : ∀ (us vs : List SV), (eqSV (.agg us) (.agg vs) ∨ eqSV (.tup us) (.tup vs)) → SV.dens β us = SV.dens β vs
  | [], [], _ => rfl
  | [], _ :: _, h => by simp only [eqSV, or_self] at h
  | _ :: _, [], h => by simp only [eqSV, or_self] at h
  | u :: r, v :: s, h => by
    simp only [eqSV] at h
    have h1 : eqSV u v := by rcases h with h | h <;> exact h.1
    have h2 : eqSV (.agg r) (.agg s) ∨ eqSV (.tup r) (.tup s) := by rcases h with h | h; exact .inl h.2; exact .inr h.2
    simp only [SV.dens]
    rw [eqSV_sound β u v h1, eqAgg_sound β r s h2]
end
theorem eqL_sound (β : Nat → Nat) : ∀ (us vs : List SV), eqL us vs → SV.dens β us = SV.dens β vs
  | [], [], _ => rfl
  | [], _ :: _, h => h.elim
  | _ :: _, [], h => h.elim
  | u :: r, v :: s, h => by simp only [SV.dens]; rw [eqSV_sound β u v h.1, eqL_sound β r s h.2]
theorem eqI {k : IntKind} {n m : Int} (h : n = m) : eqSV (.int k n) (.int k m) := by subst h; cases k <;> simp [eqSV, ikEq]
theorem eqS {s t : List UInt8} (h : s = t) : eqSV (.str s) (.str t) := by simp only [eqSV]; exact h
mutual
theorem eqSV_refl : ∀ v : SV, eqSV v v
  | .lit b => by simp [eqSV, isB, bval]
  | .bool b => by simp [eqSV, isB, bval]
  | .prop p h => by simp [eqSV, isB, bval]
  | .int k n => eqI rfl
  | .str s => eqS rfl
  | .ptr i o => by simp [eqSV]
  | .fn f cs => by simp [eqSV]
  | .any v => by simp [eqSV]
  | .agg cs => (eqSVs_refl cs).1
  | .tup cs => (eqSVs_refl cs).2
theorem eqSVs_refl : ∀ cs : List SV, eqSV (.agg cs) (.agg cs) ∧ eqSV (.tup cs) (.tup cs)
  | [] => by simp [eqSV]
  | v :: r => by
    have h1 := eqSV_refl v
    have h2 := eqSVs_refl r
    simp only [eqSV]
    exact ⟨⟨h1, h2.1⟩, ⟨h1, h2.2⟩⟩
end
theorem wkF_sound {fr : List (Nat × SV)} {nx : Nat} {s : Nat} {v : SV} : ∀ {l : List (Nat × SV)}, wkF fr nx l → get l s = some v → ∃ u, get fr s = some u ∧ eqSV u v ∧ v.ok nx
  | [], _, h => by simp [get] at h
  | (i, x) :: r, hw, h => by
    rw [get_cons] at h
    by_cases e : i = s
    · rw [if_pos e] at h
      cases h; subst e
      have := hw.1
      cases hg : get fr i with
      | none => rw [hg] at this; exact this.elim
      | some u => rw [hg] at this; exact ⟨u, rfl, this⟩
    · rw [if_neg e] at h; exact wkF_sound hw.2 h
theorem wkR_sound {rows : List (Nat × Bool × SRow)} {nx i : Nat} {o : Bool} {r : SRow} : ∀ {l : List (Nat × Bool × SRow)}, wkR rows nx l → get l i = some (o, r) → i < nx ∧ r.ok nx ∧ ∃ r', get rows i = some (o, r') ∧ ∀ w β b, RowIs w β b r' → RowIs w β b r
  | [], _, h => by simp [get] at h
  | (j, o', .cells t cs) :: l, hw, h => by
    rw [get_cons] at h
    by_cases e : j = i
    · rw [if_pos e] at h
      cases h; subst e
      have := hw.1
      split at this
      · rename_i o1 t' cs' hg
        cases hb : Nat.beq t' t && (o == o1) with
        | false => rw [hb] at this; exact this.elim
        | true =>
          rw [hb] at this
          simp only [Bool.and_eq_true, beq_iff_eq] at hb
          obtain ⟨k1, k2, k3⟩ := this
          obtain ⟨hb1, hb2⟩ := hb
          have hb1 := Nat.eq_of_beq_eq_true hb1
          subst hb1; subst hb2
          refine ⟨by simpa [Nat.blt_eq] using k1, k3, _, hg, fun w β b hr => ?_⟩
          simp only [RowIs] at hr ⊢
          rw [← eqL_sound β _ _ k2]; exact hr
      · exact this.elim
    · rw [if_neg e] at h; exact wkR_sound hw.2 h
  | (j, o', .blob Φ) :: l, hw, h => by
    rw [get_cons] at h
    by_cases e : j = i
    · rw [if_pos e] at h
      cases h; subst e
      have := hw.1
      split at this
      · rename_i o1 Ψ hg
        cases hb : o == o1 with
        | false => rw [hb] at this; exact this.elim
        | true =>
          rw [hb] at this
          obtain ⟨k1, k2⟩ := this
          obtain rfl := eq_of_beq hb
          exact ⟨by simpa [Nat.blt_eq] using k1, trivial, _, hg, fun w β b hr => ⟨hr.1, k2 _ _ hr.2⟩⟩
      · exact this.elim
    · rw [if_neg e] at h; exact wkR_sound hw.2 h
theorem wk_sound {st st' : St} {base : Nat} {w0 : Base} (hn0 : w0.n0 ≤ st'.next) (h : wk st st') (hs : Sat base w0 st β a w) : Sat base w0 st' β a w := by
  obtain ⟨fr, rows, nx, n⟩ := st
  obtain ⟨fr', rows', nx', n'⟩ := st'
  simp only [wk] at h
  cases hb : Nat.beq n n' && Nat.ble nx' nx with
  | false => rw [hb] at h; exact h.elim
  | true =>
    rw [hb] at h
    simp only [Bool.and_eq_true] at hb
    have hn := Nat.eq_of_beq_eq_true hb.1
    have hx := Nat.le_of_ble_eq_true hb.2
    subst hn
    obtain ⟨h1, h2⟩ := h
    obtain ⟨k1, k2, k3, k4⟩ := hs
    refine ⟨k1, k2, fun s v hv => ?_, k4.below, k4.base_le, fun i o r hi => ?_, fun i hi => k4.lt i (show i < nx from Nat.lt_of_lt_of_le hi hx), fun i j r oj rj hi hj hji => ?_, hn0, k4.ext⟩
    · obtain ⟨u, g1, g2, g3⟩ := wkF_sound h1 hv
      exact ⟨by rw [← eqSV_sound β u v g2]; exact (k3 s u g1).1, g3⟩
    · obtain ⟨g1, g2, r', g3, g4⟩ := wkR_sound h2 hi
      obtain ⟨m1, m2, m3, m4⟩ := k4.row i o r' g3
      exact ⟨g4 _ _ _ m1, g2, g1, m4⟩
    · obtain ⟨g1, g2, r', g3, g4⟩ := wkR_sound h2 hi
      obtain ⟨_, _, rj', f3, _⟩ := wkR_sound h2 hj
      exact k4.inj i j r' oj rj' g3 f3 hji
/-- a loop -/
theorem loop {C : Ctx} (hE : EnvOK C.P C.E) (hres : C.fn.results = C.res.toArray) {c : Code} {k : List It} {st : St} {T : Type} (J : T → St) (μ : T → Nat) (t0 : T) (fuel : Nat) (sc sb : List Nat) (hn0 : ∀ t, C.w0.n0 ≤ (J t).next) (h0 : wk st (J t0))
    (h : ∀ t (I : Act → World → Prop), (∀ st' t', μ t' < μ t → wk st' (J t') → BackN { C with sc := sc, sb := sb } I st') → wpS { C with sc := sc, sb := sb } fuel (.code c :: .back I :: k) (J t)) : LoopN C c k st := by
  unfold LoopN
  intro β a w hs
  refine wp_loop_ghost (fun n a w => ∃ t β, μ t = n ∧ Sat C.base C.w0 (J t) β a w) (μ t0) ⟨t0, β, rfl, wk_sound (hn0 t0) h0 hs⟩ ?_
  rintro n a w ⟨t, β, rfl, hs⟩
  exact wpS_sound (C := { C with sc := sc, sb := sb }) hE hres fuel _ _ β a w (h t _ (fun st' t' hlt hw => by
    unfold BackN
    exact fun β a w hs => ⟨μ t', hlt, t', β, rfl, wk_sound (hn0 t') hw hs⟩)) hs
/-- on with the walk, with other stops -/
theorem go {C : Ctx} (hE : EnvOK C.P C.E) (hres : C.fn.results = C.res.toArray) {k : List It} {st : St} (fuel : Nat) (sc sb : List Nat) (h : wpS { C with sc := sc, sb := sb } fuel k st) : StopN C k st := by
  unfold StopN
  exact fun β a w hs => wpS_sound (C := { C with sc := sc, sb := sb }) hE hres fuel _ _ β a w h hs
/-- the ways through a statement meet again -/
theorem join {C : Ctx} (hE : EnvOK C.P C.E) (hres : C.fn.results = C.res.toArray) {c : Code} {k : List It} {st : St} {T : Type} (J : T → St) (fuel fuel' : Nat) (sc sb sc' sb' : List Nat) (hn0 : ∀ t, C.w0.n0 ≤ (J t).next)
    (h : ∀ (I : Act → World → Prop), (∀ st' t', wk st' (J t') → BackN { C with sc := sc, sb := sb } I st') → wpS { C with sc := sc, sb := sb } fuel (.code c :: .back I :: k) st)
    (h2 : ∀ t, wpS { C with sc := sc', sb := sb' } fuel' k (J t)) : StopN C (.code c :: k) st := by
  unfold StopN
  intro β a w hs
  have h1 := wpS_sound (C := { C with sc := sc, sb := sb }) hE hres fuel _ _ β a w (h (fun a w => ∃ t β, Sat C.base C.w0 (J t) β a w) (fun st' t' hw => by
    unfold BackN
    exact fun β a w hs => ⟨t', β, wk_sound (hn0 t') hw hs⟩)) hs
  refine wp_mono (Q' := contQ C.P C.Q k) h1 ?_
  intro e a' w' hq
  cases e with
  | normal =>
    obtain ⟨t, β', hs'⟩ := hq
    exact wpS_sound (C := { C with sc := sc', sb := sb' }) hE hres fuel' _ _ β' a' w' (h2 t) hs'
  | _ => exact hq
/-- the callee is walked, too: it may write to blocks that the caller knows -/
def wkV (v : SV) (st : St) (V : SV) (rows : List (Nat × Bool × SRow)) (nx : Nat) : Prop := Nat.ble nx st.next = true ∧ eqSV v V ∧ V.ok nx ∧ wkR st.rows nx rows
theorem inline {C : Ctx} (hE : EnvOK C.P C.E) (hres : C.fn.results = C.res.toArray) {all l : List Oper} {k : List It} {d : Nat} {f : FuncId} {args : List SV} {fr : List (Nat × SV)} {rows : List (Nat × Bool × SRow)} {nx n : Nat}
    {fn : Func} {c : Code} {res : List ResultVar} {nt : Nat} (hf : C.P.funcs[f]? = some fn) (hb : fn.body = some c) (hres' : fn.results = res.toArray) (hnt : fn.ntmps = nt) (he : entersB C.P f = true) (hd : Nat.blt d n = true) (hv : SV.oks nx args) (hlen : args.length ≤ nt)
    {T : Type} (V : T → SV) (Rw : T → List (Nat × Bool × SRow)) (sc sb : List Nat) (fuel fuel' : Nat)
    (h1 : ∀ (R' : Ending → World → Prop) (β0 : Nat → Nat), (∀ (t : T) (st' : St) (v : SV), wkV v st' (V t) (Rw t) nx → RetN ⟨C.P, C.E, C.base, ⟨C.w0.w, β0, nx⟩, fn, res, R', sc, sb⟩ st' v) → wpS ⟨C.P, C.E, C.base, ⟨C.w0.w, β0, nx⟩, fn, res, R', sc, sb⟩ fuel [.code c] ⟨argSlots 0 args, rows, nx, nt⟩)
    (h2 : ∀ t, wpS C fuel' (.ops all l :: k) ⟨(d, V t) :: fr, Rw t, nx, n⟩) : CallN C all l k (some d) f args ⟨fr, rows, nx, n⟩ := by
  unfold CallN
  refine ⟨he, fun β a w hs => ?_⟩
  let R' : Ending → World → Prop := fun e w' => ∃ t β', e = .returned ((V t).den β') ∧ (V t).ok nx ∧ Mem C.base ⟨C.w0.w, β, nx⟩ (Rw t) nx β' w'
  have hm := hs.mem
  have run : Calls C.P f (SV.dens β args).toArray w R' := by
    refine calls_of_wp hf hb ?_
    refine wpS_sound (C := ⟨C.P, C.E, C.base, ⟨C.w0.w, β, nx⟩, fn, res, R', sc, sb⟩) hE hres' fuel [.code c] _ β _ w (h1 R' β ?_) ?_
    · intro t st' v hw
      obtain ⟨w1, w2, w3, w4⟩ := hw
      have hle : nx ≤ st'.next := Nat.le_of_ble_eq_true w1
      unfold RetN
      intro β' w' hm'
      refine ⟨t, β', ?_, w3, ?_⟩
      · rw [eqSV_sound β' v _ w2]
      · refine ⟨hm'.below, hm'.base_le, fun i o r hi => ?_, fun i hi => hm'.lt i (Nat.lt_of_lt_of_le hi hle), fun i j r oj rj hi hj hji => ?_, Nat.le_refl _, hm'.ext⟩
        · obtain ⟨g1, g2, r', g3, g4⟩ := wkR_sound w4 hi
          obtain ⟨m1, m2, m3, m4⟩ := hm'.row i o r' g3
          exact ⟨g4 _ _ _ m1, g2, g1, m4⟩
        · obtain ⟨g1, g2, r', g3, g4⟩ := wkR_sound w4 hi
          obtain ⟨_, _, rj', f3, _⟩ := wkR_sound w4 hj
          exact hm'.inj i j r' oj rj' g3 f3 hji
    · refine ⟨rfl, ?_, fun s v hs' => ?_, hm.below, hm.base_le, hm.row, hm.lt, hm.inj, Nat.le_refl _, fun i _ => rfl⟩
      · simp [SV.dens_len, hnt]; omega
      · obtain ⟨_, h2⟩ := argSlots_get args 0 hs'
        have h2 : args[s]? = some v := by simpa using h2
        refine ⟨?_, SV.oks_get args s v hv h2⟩
        have hs' : s < args.length := (List.getElem?_eq_some_iff.1 h2).1
        rw [Array.getD_eq_getD_getElem?, Array.getElem?_append_left (by simpa [SV.dens_len] using hs')]
        simp [SV.dens_get, h2]
  refine run.mono ?_
  rintro e w' ⟨t, β', rfl, hok, hm'⟩
  have hext : ∀ i, i < nx → β' i = β i := fun i hi => hm'.ext i hi
  refine wpS_sound hE hres fuel' (.ops all l :: k) _ β' _ w' (h2 t) ?_
  have hs' : Sat C.base C.w0 ⟨fr, Rw t, nx, n⟩ β' a w' := by
    refine ⟨hs.defers, hs.size, fun s v hv' => ?_, hm'.below, hm'.base_le, hm'.row, hm'.lt, hm'.inj, hm.n0, fun i hi => ?_⟩
    · obtain ⟨q1, q2⟩ := hs.slot s v hv'
      exact ⟨by rw [q1, SV.den_ext hext v q2], q2⟩
    · rw [hext i (Nat.lt_of_lt_of_le hi hm.n0)]; exact hm.ext i hi
  exact hs'.put (by simpa [Nat.blt_eq] using hd) hok
/-- less is known -/
theorem stop_wk {C : Ctx} {k : List It} {st st' : St} (hn0 : C.w0.n0 ≤ st'.next) (h : wk st st') (hs : StopN C k st') : StopN C k st := by
  unfold StopN at hs ⊢
  exact fun β a w hw => hs β a w (wk_sound hn0 h hw)
end
end Sym
end Go.Proofs.YtmodjglbjempkaaGreatDoor
namespace Go.Proofs.YtmodjglbjempkaaGreatDoor
open Go.RowKit
namespace Sym
theorem x_len {C : Ctx} {G : Blobs} {x : Operand} {t e : TypeId} {a : Option Addr} {len cap : Nat} (ht : C.P.underlying t = some (.slice e)) : ExtN C G (.call ⟨.builtin .len, ⟨[x]⟩, ⟨[t]⟩⟩) [.any (.slice a len cap)] (.int .i64 (len : Nat)) := by
  unfold ExtN
  intro ρ β w dst ty pos after g _ _ h
  have e1 : ρ x = .slice a len cap := by simpa [opsX, SV.dens, SV.den] using h
  have q : (underlying t).run C.P w = .ok (.slice e) w := by simp [underlying, ht]
  simp [execOp, resolve, invoke, builtin, Builtin.len_, e1, q, SV.den, goInt]
theorem x_index {C : Ctx} {G : Blobs} {x y : Operand} {t e : TypeId} {a : Addr} {len cap j sz : Nat} {i : Int} (hi : i = (j : Nat)) (ht : C.P.underlying t = some (.slice e)) (hs : ∀ w, (sizeOf e).run C.P w = .ok sz w) (hj : j < len) :
    ExtN C G (.indexAddr t x y) [.any (.slice (some a) len cap), .int .i64 i] (.any (.pointer (some (a.add (j * sz))))) := by
  subst hi
  unfold ExtN
  intro ρ β w dst ty pos after g _ _ h
  have h' : ρ x = .slice (some a) len cap ∧ ρ y = .int .i64 (j : Nat) := by simpa [opsX, SV.dens, SV.den] using h
  have q : (underlying t).run C.P w = .ok (.slice e) w := by simp [underlying, ht]
  simp [execOp, Instr.indexAt, h'.1, h'.2, asIntOf, q, hs, hj, SV.den]
theorem x_indexPtr {C : Ctx} {G : Blobs} {x y : Operand} {t e : TypeId} {i off len j sz : Nat} (ht : C.P.underlying t = some (.array len e)) (hs : ∀ w, (sizeOf e).run C.P w = .ok sz w) (hj : j < len) :
    ExtN C G (.indexAddr t x y) [.ptr i off, .int .i64 (j : Nat)] (.ptr i (off + j * sz)) := by
  unfold ExtN
  intro ρ β w dst ty pos after g _ _ h
  have h' : ρ x = .pointer (some ⟨β i, off, none⟩) ∧ ρ y = .int .i64 (j : Nat) := by simpa [opsX, SV.dens, SV.den] using h
  have q : (underlying t).run C.P w = .ok (.array len e) w := by simp [underlying, ht]
  simp [execOp, Instr.indexAt, Instr.sureAddr, h'.1, h'.2, asIntOf, q, hs, hj, SV.den, add_at]
theorem x_load1 {C : Ctx} {G : Blobs} {x : Operand} {t : TypeId} {a : Addr} {v : SV} (hag : ∀ w, (isAgg t).run C.P w = .ok false w) (hc : ∀ w, Below C.base C.w0.w w → ∀ β, w.cell? a = some (v.den β)) :
    ExtN C G (.load t x) [.any (.pointer (some a))] v := by
  unfold ExtN
  intro ρ β w dst ty pos after g hb _ h
  have e1 : ρ x = .pointer (some a) := by simpa [opsX, SV.dens, SV.den] using h
  simp [execOp, Instr.loadAt, Instr.sureAddr, e1, loadVar, hag, hc w hb β]
theorem x_loadAgg {C : Ctx} {G : Blobs} {x : Operand} {t : TypeId} {a : Addr} {vs : List SV} (hag : ∀ w, (isAgg t).run C.P w = .ok true w) (hs : ∀ w, (sizeOf t).run C.P w = .ok vs.length w) (hc : ∀ w, Below C.base C.w0.w w → ∀ β j v, (SV.dens β vs)[j]? = some v → w.cell? (a.add j) = some v) :
    ExtN C G (.load t x) [.any (.pointer (some a))] (.agg vs) := by
  unfold ExtN
  intro ρ β w dst ty pos after g hb _ h
  have e1 : ρ x = .pointer (some a) := by simpa [opsX, SV.dens, SV.den] using h
  have := run_loadCells_list (P := C.P) w a (SV.dens β vs) (fun j v hj => hc w hb β j v hj)
  rw [SV.dens_len] at this
  simp [execOp, Instr.loadAt, Instr.sureAddr, e1, loadVar, hag, hs, this, SV.den]
theorem x_field {C : Ctx} {G : Blobs} {x : Operand} {t : TypeId} {a : Addr} {fs : Array Field} {f : Nat} {fd : Field} {sz : Nat} (ht : C.P.underlying t = some (.struct fs)) (hf : fs[f]? = some fd) (hs : ∀ w, (sizeOf fd.type).run C.P w = .ok sz w) (h0 : sz ≠ 0) :
    ExtN C G (.fieldAddr t x f) [.any (.pointer (some a))] (.any (.pointer (some (a.add fd.offset)))) := by
  unfold ExtN
  intro ρ β w dst ty pos after g hb _ h
  have e1 : ρ x = .pointer (some a) := by simpa [opsX, SV.dens, SV.den] using h
  have q : (underlying t).run C.P w = .ok (.struct fs) w := by simp [underlying, ht]
  simp [execOp, Instr.fieldAt, Instr.sureAddr, e1, q, hf, fieldPlace, hs, h0, SV.den]
theorem x_func {C : Ctx} {G : Blobs} {f : FuncId} {ys : List Operand} {us : List SV} : ExtN C G (.makeFunc (.func f) ⟨[]⟩ ⟨ys⟩) us (.fn f us) := by
  unfold ExtN
  intro ρ β w dst ty pos after g hb _ h
  have h : ys.map ρ = SV.dens β us := by simpa [opsX] using h
  simp [execOp, Instr.makeFunc, SV.den, ← h]
theorem x_indexAgg {C : Ctx} {G : Blobs} {x y : Operand} {t e : TypeId} {len j : Nat} {cs : List SV} {v : SV} (ht : C.P.underlying t = some (.array len e)) (hs : ∀ w, (sizeOf e).run C.P w = .ok 1 w) (hag : ∀ w, (isAgg e).run C.P w = .ok false w) (hj : j < len) (hv : cs[j]? = some v) :
    ExtN C G (.index t x y) [.agg cs, .int .i64 (j : Nat)] v := by
  unfold ExtN
  intro ρ β w dst ty pos after g _ _ h
  have h' : ρ x = .agg (SV.dens β cs).toArray ∧ ρ y = .int .i64 (j : Nat) := by simpa [opsX, SV.dens, SV.den] using h
  have q : (underlying t).run C.P w = .ok (.array len e) w := by simp [underlying, ht]
  have g1 : (SV.dens β cs)[j]? = some (v.den β) := by rw [SV.dens_get, hv]; rfl
  simp [execOp, Instr.index, h'.1, h'.2, asIntOf, q, hs, hag, hj, part, g1]
theorem x_pair {C : Ctx} {G : Blobs} {x y : Operand} {t e : TypeId} {a b : Option Addr} {n c m d : Nat} {z : Value} (ht : C.P.underlying t = some (.array 2 e)) (hs : ∀ w, (sizeOf e).run C.P w = .ok 1 w) (hz : ∀ w, (zeroValue t).run C.P w = .ok z w) (hc : z.cells.size = 2) :
    ExtN C G (.build t ⟨[(0, x), (1, y)]⟩) [.any (.slice a n c), .any (.slice b m d)] (.agg [.any (.slice a n c), .any (.slice b m d)]) := by
  unfold ExtN
  intro ρ β w dst ty pos after g _ _ h
  have h' : ρ x = .slice a n c ∧ ρ y = .slice b m d := by simpa [opsX, SV.dens, SV.den] using h
  have q : (underlying t).run C.P w = .ok (.array 2 e) w := by simp [underlying, ht]
  have h2 : ∃ c0 c1, z.cells = #[c0, c1] := by
    generalize z.cells = zc at hc
    obtain ⟨l⟩ := zc
    match l, hc with
    | [c0, c1], _ => exact ⟨c0, c1, rfl⟩
  obtain ⟨c0, c1, h2⟩ := h2
  have f1 : Instr.fill (fun i => some (i, 1)) #[c0, c1] [(0, .slice a n c), (1, .slice b m d)] = some #[.slice a n c, .slice b m d] := by simp [Instr.fill, Value.cells]
  simp [execOp, Instr.build, h'.1, h'.2, q, hs, hz, h2, f1, SV.den, SV.dens]
/-- steps of rows or columns, as they lie in memory -/
def StepsAt (la : Option Addr) (L : List (Int × Int)) (w : World) : Prop := ∀ i s, L[i]? = some s → ∃ a, la = some a ∧ a.block < w.heap.size ∧ w.cell? (a.add (i * 2)) = some (.int .i64 s.1) ∧ w.cell? (a.add (i * 2 + 1)) = some (.int .i64 s.2)
theorem StepsAt.below {la : Option Addr} {L : List (Int × Int)} {w w' : World} (h : StepsAt la L w) (hb : Below w.heap.size w w') : StepsAt la L w' := fun i s hi => by
  obtain ⟨a, h1, h2, h3, h4⟩ := h i s hi
  have e : ∀ k, (a.add k).block = a.block := fun k => by unfold Addr.add; split <;> rfl
  refine ⟨a, h1, Nat.lt_of_lt_of_le h2 hb.size, ?_, ?_⟩
  · rw [World.cell?_of_block (w := w) (by rw [e]; exact hb.block _ h2)]; exact h3
  · rw [World.cell?_of_block (w := w) (by rw [e]; exact hb.block _ h2)]; exact h4
end Sym
end Go.Proofs.YtmodjglbjempkaaGreatDoor
namespace Go.Proofs.YtmodjglbjempkaaGreatDoor
open Go.RowKit
namespace Sym
/-- a block that one slice owns -/
def OwnI (e : TypeId) (g n cap : Nat) (xs : List Value) (b : Nat) (o : Option Obj) : Prop := b = g ∧ ∃ cur, o = some (.cells cur e (0, 0)) ∧ n ≤ cap ∧ cap ≤ maxLen ∧ cur.size = cap ∧ cur.toList.take n = xs ∧ xs.length = n
theorem OwnI.owns {e : TypeId} {g n cap : Nat} {xs : List Value} {b base : Nat} {w : World} (h : OwnI e g n cap xs b w.heap[b]?) (hb : base ≤ b) : w.ownsRow base e 1 (.slice (some ⟨g, 0, none⟩) n cap) n xs := by
  obtain ⟨rfl, cur, h1, h2, h3, h4, h5, h6⟩ := h
  exact ⟨by omega, .inr ⟨b, cap, cur, rfl, hb, h1, h2, h3, by omega, by simpa using h5⟩⟩
theorem OwnI.cell {e : TypeId} {g n cap : Nat} {xs : List Value} {b : Nat} {w : World} (h : OwnI e g n cap xs b w.heap[b]?) : ∀ j u, xs[j]? = some u → w.cell? ((⟨g, 0, none⟩ : Addr).add j) = some u := by
  obtain ⟨rfl, cur, h1, h2, h3, h4, h5, h6⟩ := h
  intro j u hj
  rw [add_at]
  have hjn : j < n := by have := (List.getElem?_eq_some_iff.1 hj).1; omega
  have : cur[j]? = some u := by
    rw [← h5, List.getElem?_take, if_pos hjn] at hj
    simpa using hj
  simp [World.cell?, h1, this]
mutual
/-- the block i is named -/
def ment (i : Nat) : SV → Bool
  | .ptr j _ => Nat.beq j i
  | .agg cs => ments i cs
  | .tup cs => ments i cs
  | .fn _ cs => ments i cs
  | _ => false
def ments (i : Nat) : List SV → Bool
  | [] => false
  | v :: r => ment i v || ments i r
end
mutual
theorem ment_den {i : Nat} {β β' : Nat → Nat} (hb : ∀ j, j ≠ i → β' j = β j) : ∀ v : SV, ment i v = false → v.den β' = v.den β
  | .lit _, _ => rfl
  | .bool _, _ => rfl
  | .prop _ _, _ => rfl
  | .int _ _, _ => rfl
  | .str _, _ => rfl
  | .ptr j _, h => by simp only [SV.den]; rw [hb j (Nat.ne_of_beq_eq_false h)]
  | .agg cs, h => by simp only [SV.den]; rw [ments_den hb cs h]
  | .tup cs, h => by simp only [SV.den]; rw [ments_den hb cs h]
  | .fn _ cs, h => by simp only [SV.den]; rw [ments_den hb cs h]
  | .any _, _ => rfl
theorem ments_den {i : Nat} {β β' : Nat → Nat} (hb : ∀ j, j ≠ i → β' j = β j) : ∀ vs : List SV, ments i vs = false → SV.dens β' vs = SV.dens β vs
  | [], _ => rfl
  | v :: r, h => by
    simp only [ments, Bool.or_eq_false_iff] at h
    simp only [SV.dens]; rw [ment_den hb v h.1, ments_den hb r h.2]
end
def mentF (i : Nat) : List (Nat × SV) → Bool
  | [] => false
  | (_, v) :: r => ment i v || mentF i r
def mentR (i : Nat) : List (Nat × Bool × SRow) → Bool
  | [] => false
  | (_, _, .cells _ cs) :: r => ments i cs || mentR i r
  | (_, _, .blob _) :: r => mentR i r
theorem mentF_get {i s : Nat} {v : SV} : ∀ (fr : List (Nat × SV)), mentF i fr = false → get fr s = some v → ment i v = false
  | [], _, h => by simp [get] at h
  | (j, u) :: r, hm, h => by
    simp only [mentF, Bool.or_eq_false_iff] at hm
    rw [get_cons] at h
    by_cases e : j = s
    · rw [if_pos e] at h; cases h; exact hm.1
    · rw [if_neg e] at h; exact mentF_get r hm.2 h
theorem mentR_get {i s : Nat} {o : Bool} {t : TypeId} {cs : List SV} : ∀ (rows : List (Nat × Bool × SRow)), mentR i rows = false → get rows s = some (o, .cells t cs) → ments i cs = false
  | [], _, h => by simp [get] at h
  | (j, q, .cells t' c') :: r, hm, h => by
    simp only [mentR, Bool.or_eq_false_iff] at hm
    rw [get_cons] at h
    by_cases e : j = s
    · rw [if_pos e] at h; cases h; exact hm.1
    · rw [if_neg e] at h; exact mentR_get r hm.2 h
  | (j, q, .blob _) :: r, hm, h => by
    simp only [mentR] at hm
    rw [get_cons] at h
    by_cases e : j = s
    · rw [if_pos e] at h; cases h
    · rw [if_neg e] at h; exact mentR_get r hm h
theorem RowIs_block {β : Nat → Nat} {w w' : World} {b : Nat} {r : SRow} (hb : w'.heap[b]? = w.heap[b]?) (hs : w.heap.size ≤ w'.heap.size) (h : RowIs w β b r) : RowIs w' β b r := by
  cases r with
  | cells t cs => simp only [RowIs] at h ⊢; unfold Row at h ⊢; rw [hb]; exact h
  | blob Φ => exact ⟨Nat.lt_of_lt_of_le h.1 hs, by rw [hb]; exact h.2⟩
theorem SRow.ok_mono {n m : Nat} (h : n ≤ m) : ∀ (r : SRow), r.ok n → r.ok m
  | .cells t cs, k => SV.oks_mono h cs k
  | .blob _, _ => trivial
theorem xop_build {C : Ctx} (hE : EnvOK C.P C.E) (hres : C.fn.results = C.res.toArray) {all l : List Oper} {k : List It} {d : Nat} {ty : TypeId} {pos : String} {after : Array Edge} {gd : Option (Nat × Bool)} {fr : List (Nat × SV)} {rows : List (Nat × Bool × SRow)} {nx n len : Nat}
    {ps : List (Nat × Operand)} {t e : TypeId} (xs : List Value) (fuel : Nat) (hd : Nat.blt d n = true) (hl : xs.length = len) (hm : len ≤ maxLen)
    (hr : ∀ β a w, Sat C.base C.w0 ⟨fr, rows, nx, n⟩ β a w → (Instr.buildSlice t len (ps.toArray.map fun (i, x) => (i, a.eval x))).run C.P w = .ok (.slice (some ⟨w.heap.size, 0, none⟩) len len) (w.alloc (.cells xs.toArray e)))
    (h : ∀ g, wpS C fuel (.ops all l :: k) ⟨(d, .any (.slice (some ⟨g, 0, none⟩) len len)) :: fr, (nx, true, .blob (OwnI e g len len xs)) :: rows, nx + 1, n⟩) :
    XopN C all l k ⟨some d, .buildSlice t len ⟨ps⟩, ty, pos, after, gd⟩ ⟨fr, rows, nx, n⟩ := by
  unfold XopN
  intro β a w hs
  have hrun := hr β a w hs
  unfold Oper.wp
  have : (execOp a.eval ⟨some d, .buildSlice t len ⟨ps⟩, ty, pos, after, gd⟩).run C.P w = .ok (.value (.slice (some ⟨w.heap.size, 0, none⟩) len len)) (w.alloc (.cells xs.toArray e)) := by
    simp only [execOp, Sem.run_bind]
    rw [hrun]; simp
  rw [this]
  have hs2 := hs.alloc (r := .blob (OwnI e w.heap.size len len xs)) trivial (.cells xs.toArray e) (fun β' hb => ⟨by simp, rfl, xs.toArray, by have := Row.new w e xs.toArray; unfold Row at this; exact this, Nat.le_refl _, hm, by simp [hl], by simp [List.take_of_length_le, hl], hl⟩) rfl
  have hs3 := hs2.put (d := d) (by simpa [Nat.blt_eq] using hd) (v := .any (.slice (some ⟨w.heap.size, 0, none⟩) len len)) rfl
  exact wpS_sound hE hres fuel (.ops all l :: k) _ _ _ _ (h w.heap.size) hs3
theorem xop_append {C : Ctx} (hE : EnvOK C.P C.E) (hres : C.fn.results = C.res.toArray) {all l : List Oper} {k : List It} {d : Nat} {ty : TypeId} {pos : String} {after : Array Edge} {gd : Option (Nat × Bool)} {fr : List (Nat × SV)} {rows : List (Nat × Bool × SRow)} {nx n : Nat}
    {x y : Operand} {t e : TypeId} (i j : Nat) {g n1 cap1 g2 m c2 : Nat} {xs ys : List Value} {inf : TypeInfo} {z : Value} (fuel : Nat) (hd : Nat.blt d n = true)
    (ht : C.P.underlying t = some (.slice e)) (hi : C.P.info? e = some inf) (hz : inf.zero = some z) (hsize : inf.size = 1) (hzs : z.cells.size = 1)
    (hx : ev fr x = some (.any (.slice (some ⟨g, 0, none⟩) n1 cap1))) (hy : ev fr y = some (.any (.slice (some ⟨g2, 0, none⟩) m c2)))
    (ri : get rows i = some (true, .blob (OwnI e g n1 cap1 xs))) (rj : get rows j = some (true, .blob (OwnI e g2 m c2 ys)))
    (h63 : n1 + m ≤ maxLen) (hbytes : (n1 + m) * inf.bytes ≤ 140737488355328) (h1 : ∀ u ∈ ys, u.oneCell' = true) (hno : (mentF i fr || mentR i rows) = false) (hni : C.w0.n0 ≤ i)
    (h : ∀ g' cap', wpS C fuel (.ops all l :: k) ⟨(d, .any (.slice (some ⟨g', 0, none⟩) (n1 + m) cap')) :: fr, (i, true, .blob (OwnI e g' (n1 + m) cap' (xs ++ ys))) :: rows, nx, n⟩) :
    XopN C all l k ⟨some d, .call ⟨.builtin .append, ⟨[x, y]⟩, ⟨[t, t]⟩⟩, ty, pos, after, gd⟩ ⟨fr, rows, nx, n⟩ := by
  unfold XopN
  intro β a w hs
  have hm := hs.mem
  obtain ⟨qi, -, qi3, qi4⟩ := hm.row i _ _ ri
  obtain ⟨qj, -, qj3, -⟩ := hm.row j _ _ rj
  have qi3 : i < nx := qi3
  have hown := OwnI.owns qi.2 (qi4 rfl)
  have hg : β i = g := qi.2.1
  have hnews := OwnI.cell qj.2
  have hml : ys.length = m := by obtain ⟨-, cur, -, -, -, -, -, h6⟩ := qj.2; exact h6
  obtain ⟨v', w', hr, h2, h3, h4, h5⟩ := run_append_own_at (P := C.P) w C.base t ty e inf z 1 inf.bytes ht hi hz hsize rfl hzs Nat.one_pos _ n1 xs hown ⟨g2, 0, none⟩ m c2 ys (by omega) hnews h1 h63 hbytes hm.base_le
  have hnn : ¬ v' = .slice none 0 0 := fun e0 => by have := (h4.1 e0).1; cases this
  obtain ⟨hlen, hor⟩ := h2
  rcases hor with ⟨e0, -⟩ | ⟨g', cap', cur, rfl, hb', hc', hn', hm', hs', ht'⟩
  · exact absurd e0 hnn
  have hblk : g' = g ∨ g' = w.heap.size := by simpa [Value.ownBlock] using h5
  unfold Oper.wp
  have e1 := (ev_sound hs hx).1
  have e2 := (ev_sound hs hy).1
  have hrun : (execOp a.eval ⟨some d, .call ⟨.builtin .append, ⟨[x, y]⟩, ⟨[t, t]⟩⟩, ty, pos, after, gd⟩).run C.P w = .ok (.value (.slice (some ⟨g', 0, none⟩) (n1 + m) cap')) w' := by
    unfold execOp
    simp only [resolve, invoke, builtin, Sem.run_bind, Sem.run_pure, Result.andThen_ok, List.map_toArray, List.map_cons, List.map_nil, e1, e2, SV.den, hr]
  rw [hrun]
  have hgs : g < w.heap.size := by rw [← hg]; exact qi.1
  have hsz' : g' < w'.heap.size := by
    rcases Nat.lt_or_ge g' w'.heap.size with h0 | h0
    · exact h0
    · rw [Array.getElem?_eq_none h0] at hc'; cases hc'
  have hbg : C.base ≤ g := by rw [← hg]; exact qi4 rfl
  simp only [Bool.or_eq_false_iff] at hno
  have hβ : ∀ q, q ≠ i → (fun q => if q = i then g' else β q) q = β q := fun q hq => by dsimp only; rw [if_neg hq]
  have hapart : ∀ q o r, get rows q = some (o, r) → q ≠ i → β q ≠ g := fun q o r hq hne => by rw [← hg]; exact hm.inj i q _ o r ri hq hne
  have hother : ∀ p o r', get rows p = some (o, r') → p ≠ i → β p ≠ g' := fun p o r' hp hpi => by
    rcases hblk with e0 | e0
    · rw [e0]; exact hapart p o r' hp hpi
    · have := hm.lt p (hm.row p o r' hp).2.2.1; omega
  have hs2 : Sat C.base C.w0 ⟨fr, (i, true, .blob (OwnI e g' (n1 + m) cap' (xs ++ ys))) :: rows, nx, n⟩ (fun q => if q = i then g' else β q) a w' := by
    refine ⟨hs.defers, hs.size, fun s v hv => ?_, ⟨hm.below.os ▸ h3.os, hm.below.tape ▸ h3.tape, hm.below.output ▸ h3.output, Nat.le_trans hm.below.size h3.size, fun q hq => ?_⟩, Nat.le_trans hm.base_le h3.size, fun q o r hq => ?_, fun q hq => ?_, fun q p r o r' hq hp hpq => ?_, hm.n0, fun q hq => ?_⟩
    · obtain ⟨k1, k2⟩ := hs.slot s v hv
      exact ⟨by rw [k1, ment_den hβ v (mentF_get fr hno.1 hv)], k2⟩
    · rw [h3.block q (Nat.lt_of_lt_of_le hq hm.base_le) (by simp [Value.ownBlock]; omega)]; exact hm.below.block q hq
    · rw [get_cons] at hq
      by_cases e0 : i = q
      · rw [if_pos e0] at hq
        cases hq
        subst e0
        dsimp only
        rw [if_pos rfl]
        exact ⟨⟨hsz', rfl, cur, hc', hn', hm', by omega, by simpa using ht', by simpa using hlen⟩, trivial, qi3, fun _ => hb'⟩
      · rw [if_neg e0] at hq
        obtain ⟨k1, k2, k3, k4⟩ := hm.row q o r hq
        have hqi : q ≠ i := fun e => e0 e.symm
        dsimp only
        rw [if_neg hqi]
        have k5 := RowIs_block (h3.block _ (hm.lt q k3) (by simp [Value.ownBlock]; exact hapart q o r hq hqi)) h3.size k1
        refine ⟨?_, k2, k3, k4⟩
        cases r with
        | cells t' cs => simp only [RowIs] at k5 ⊢; rw [ments_den hβ cs (mentR_get rows hno.2 hq)]; exact k5
        | blob Φ => exact k5
    · have hq : q < nx := hq
      by_cases e0 : q = i
      · rw [if_pos e0]; exact hsz'
      · rw [if_neg e0]; exact Nat.lt_of_lt_of_le (hm.lt q hq) h3.size
    · rw [get_cons] at hq hp
      by_cases e0 : i = q
      · rw [if_neg (by omega)] at hp
        rw [if_pos e0.symm, if_neg (by omega)]
        exact hother p o r' hp (by omega)
      · rw [if_neg e0] at hq
        rw [if_neg (by omega : ¬ q = i)]
        by_cases e2 : i = p
        · rw [if_pos e2.symm]; exact fun e3 => hother q _ _ hq (by omega) e3.symm
        · rw [if_neg e2] at hp
          rw [if_neg (by omega)]
          exact hm.inj q p r o r' hq hp hpq
    · rw [if_neg (by omega)]; exact hm.ext q hq
  have hs3 := hs2.put (d := d) (by simpa [Nat.blt_eq] using hd) (v := .any (.slice (some ⟨g', 0, none⟩) (n1 + m) cap')) rfl
  exact wpS_sound hE hres fuel (.ops all l :: k) _ _ _ _ (h g' cap') hs3
theorem xop_load {C : Ctx} (hE : EnvOK C.P C.E) (hres : C.fn.results = C.res.toArray) {all l : List Oper} {k : List It} {d : Nat} {ty : TypeId} {pos : String} {after : Array Edge} {gd : Option (Nat × Bool)} {fr : List (Nat × SV)} {rows : List (Nat × Bool × SRow)} {nx n : Nat}
    {x : Operand} {t e : TypeId} (i : Nat) {g n1 cap1 j : Nat} {xs : List Value} {o : Bool} (v : SV) (fuel : Nat) (hd : Nat.blt d n = true) (hag : ∀ w, (isAgg t).run C.P w = .ok false w)
    (hx : ev fr x = some (.any (.pointer (some ((⟨g, 0, none⟩ : Addr).add j))))) (ri : get rows i = some (o, .blob (OwnI e g n1 cap1 xs))) (hv : ∀ β, xs[j]? = some (v.den β)) (hok : v.ok nx)
    (h : wpS C fuel (.ops all l :: k) ⟨(d, v) :: fr, rows, nx, n⟩) : XopN C all l k ⟨some d, .load t x, ty, pos, after, gd⟩ ⟨fr, rows, nx, n⟩ := by
  unfold XopN
  intro β a w hs
  obtain ⟨qi, -, -, -⟩ := hs.mem.row i _ _ ri
  have hc := OwnI.cell qi.2 j _ (hv β)
  have e1 := (ev_sound hs hx).1
  unfold Oper.wp
  have hrun : (execOp a.eval ⟨some d, .load t x, ty, pos, after, gd⟩).run C.P w = .ok (.value (v.den β)) w := by
    simp [execOp, Instr.loadAt, Instr.sureAddr, e1, SV.den, loadVar, hag, hc]
  rw [hrun]
  exact wpS_sound hE hres fuel (.ops all l :: k) _ β _ w h (hs.put (by simpa [Nat.blt_eq] using hd) hok)
theorem fill2 (u v : Value) (hu : u.cells = #[u]) (hv : v.cells = #[v]) (A : Array Value) (h : A.size = 2) : Instr.fill (fun i => some (i, 1)) A [(0, u), (1, v)] = some #[u, v] := by
  obtain ⟨l⟩ := A
  match l, h with
  | [c0, c1], _ => simp [Instr.fill, hu, hv]
theorem fill1 (u : Value) (hu : u.cells = #[u]) (A : Array Value) (h : A.size = 1) : Instr.fill (fun i => some (i, 1)) A [(0, u)] = some #[u] := by
  obtain ⟨l⟩ := A
  match l, h with
  | [c0], _ => simp [Instr.fill, hu]
theorem xop_ints2 {C : Ctx} (hE : EnvOK C.P C.E) (hres : C.fn.results = C.res.toArray) {all l : List Oper} {k : List It} {d : Nat} {ty : TypeId} {pos : String} {after : Array Edge} {gd : Option (Nat × Bool)} {fr : List (Nat × SV)} {rows : List (Nat × Bool × SRow)} {nx n : Nat}
    {x y : Operand} {t e : TypeId} {p q : Int} {z0 : Value} (fuel : Nat) (hd : Nat.blt d n = true) (hx : ev fr x = some (.int .i64 p)) (hy : ev fr y = some (.int .i64 q))
    (ht : C.P.underlying t = some (.slice e)) (hs : ∀ w, (sizeOf e).run C.P w = .ok 1 w) (hz : ∀ w, (zeroValue e).run C.P w = .ok z0 w) (hz1 : z0.cells = #[z0])
    (h : ∀ g, wpS C fuel (.ops all l :: k) ⟨(d, .any (.slice (some ⟨g, 0, none⟩) 2 2)) :: fr, (nx, true, .blob (OwnI e g 2 2 [.int .i64 p, .int .i64 q])) :: rows, nx + 1, n⟩) :
    XopN C all l k ⟨some d, .buildSlice t 2 ⟨[(0, x), (1, y)]⟩, ty, pos, after, gd⟩ ⟨fr, rows, nx, n⟩ :=
  xop_build hE hres [.int .i64 p, .int .i64 q] fuel hd rfl (by unfold maxLen; omega) (fun β a w hsat => by
    have e1 := (ev_sound hsat hx).1
    have e2 := (ev_sound hsat hy).1
    have q0 : (underlying t).run C.P w = .ok (.slice e) w := by simp [underlying, ht]
    simp [Instr.buildSlice, q0, hs, hz, hz1, e1, e2, SV.den, fill2 (.int .i64 p) (.int .i64 q) rfl rfl, newRow, World.alloc_eq]) h
theorem xop_ints1 {C : Ctx} (hE : EnvOK C.P C.E) (hres : C.fn.results = C.res.toArray) {all l : List Oper} {k : List It} {d : Nat} {ty : TypeId} {pos : String} {after : Array Edge} {gd : Option (Nat × Bool)} {fr : List (Nat × SV)} {rows : List (Nat × Bool × SRow)} {nx n : Nat}
    {x : Operand} {t e : TypeId} {p : Int} {z0 : Value} (fuel : Nat) (hd : Nat.blt d n = true) (hx : ev fr x = some (.int .i64 p))
    (ht : C.P.underlying t = some (.slice e)) (hs : ∀ w, (sizeOf e).run C.P w = .ok 1 w) (hz : ∀ w, (zeroValue e).run C.P w = .ok z0 w) (hz1 : z0.cells = #[z0])
    (h : ∀ g, wpS C fuel (.ops all l :: k) ⟨(d, .any (.slice (some ⟨g, 0, none⟩) 1 1)) :: fr, (nx, true, .blob (OwnI e g 1 1 [.int .i64 p])) :: rows, nx + 1, n⟩) :
    XopN C all l k ⟨some d, .buildSlice t 1 ⟨[(0, x)]⟩, ty, pos, after, gd⟩ ⟨fr, rows, nx, n⟩ :=
  xop_build hE hres [.int .i64 p] fuel hd rfl (by unfold maxLen; omega) (fun β a w hsat => by
    have e1 := (ev_sound hsat hx).1
    have q0 : (underlying t).run C.P w = .ok (.slice e) w := by simp [underlying, ht]
    simp [Instr.buildSlice, q0, hs, hz, hz1, e1, SV.den, fill1 (.int .i64 p) rfl, newRow, World.alloc_eq]) h
end Sym
end Go.Proofs.YtmodjglbjempkaaGreatDoor
namespace Go.Proofs.YtmodjglbjempkaaGreatDoor
open Go.RowKit
namespace Sym
theorem x_rem {C : Ctx} {G : Blobs} {x y : Operand} {t u : TypeId} {k : IntKind} {a b : Int} (ha : 0 ≤ a) (hb : 0 < b) : ExtN C G (.binOp .rem t x y u) [.int k a, .int k b] (.int k (a % b)) := by
  unfold ExtN
  intro ρ β w dst ty pos after g _ _ h
  have h' : ρ x = .int k a ∧ ρ y = .int k b := by simpa [opsX, SV.dens, SV.den] using h
  have e0 : ¬ b = 0 := by omega
  simp [execOp, eqGuard, binOp, Op.intDiv, h'.1, h'.2, e0, SV.den, Int.tmod_eq_emod_of_nonneg ha]
theorem x_quo {C : Ctx} {G : Blobs} {x y : Operand} {t u : TypeId} {k : IntKind} {a b : Int} (ha : 0 ≤ a) (hb : 0 < b) (hk : inK k a) : ExtN C G (.binOp .quo t x y u) [.int k a, .int k b] (.int k (a / b)) := by
  unfold ExtN
  intro ρ β w dst ty pos after g _ _ h
  have h' : ρ x = .int k a ∧ ρ y = .int k b := by simpa [opsX, SV.dens, SV.den] using h
  have e0 : ¬ b = 0 := by omega
  have h1 : 0 ≤ a / b := Int.ediv_nonneg ha (by omega)
  have h2 : a / b ≤ a := Int.ediv_le_self _ ha
  have hw : k.wrap (a / b) = a / b := inK_wrap (by cases k <;> simp only [inK] at hk ⊢ <;> omega)
  simp [execOp, eqGuard, binOp, Op.intDiv, h'.1, h'.2, e0, SV.den, Int.tdiv_eq_ediv_of_nonneg ha, hw]
/-- bytes of one's own, turned into a string -/
theorem x_bytesStr {C : Ctx} {G : Blobs} {x : Operand} {t u e : TypeId} {g cap n : Nat} {xs : List Value} (i : Nat) (l : List UInt8) (hs : C.P.underlying t = some (.slice e)) (he : C.P.underlying e = some (.int .u8)) (hd : C.P.underlying u = some .string)
    (ri : G i = some (OwnI e g n cap xs)) (hx : xs = bvals l) : ExtN C G (.convert t u x) [.any (.slice (some ⟨g, 0, none⟩) n cap)] (.str l) := by
  unfold ExtN
  intro ρ β w dst ty pos after gd _ hG h
  have e1 : ρ x = .slice (some ⟨g, 0, none⟩) n cap := by simpa [opsX, SV.dens, SV.den] using h
  have ho := (hG i _ ri).2
  have hc := OwnI.cell ho
  have hn : n = l.length := by obtain ⟨-, cur, -, -, -, -, -, h6⟩ := ho; rw [← h6, hx]; simp [bvals]
  subst hn
  have hr := run_convert_bytes_back (P := C.P) w t u e ⟨g, 0, none⟩ cap l hs he hd (fun j hj => hc j _ (by rw [hx]; simp [bvals, hj]))
  simp [execOp, e1, hr, SV.den, bstr]
theorem xop_val {C : Ctx} (hE : EnvOK C.P C.E) (hres : C.fn.results = C.res.toArray) {all l : List Oper} {k : List It} {d : Nat} {op : Op} {ty : TypeId} {pos : String} {after : Array Edge} {gd : Option (Nat × Bool)} {fr : List (Nat × SV)} {rows : List (Nat × Bool × SRow)} {nx n : Nat}
    (v : SV) (fuel : Nat) (hd : Nat.blt d n = true) (hok : v.ok nx) (hr : ∀ β a w, Sat C.base C.w0 ⟨fr, rows, nx, n⟩ β a w → (execOp a.eval ⟨some d, op, ty, pos, after, gd⟩).run C.P w = .ok (.value (v.den β)) w)
    (h : wpS C fuel (.ops all l :: k) ⟨(d, v) :: fr, rows, nx, n⟩) : XopN C all l k ⟨some d, op, ty, pos, after, gd⟩ ⟨fr, rows, nx, n⟩ := by
  unfold XopN
  intro β a w hs
  unfold Oper.wp
  rw [hr β a w hs]
  exact wpS_sound hE hres fuel (.ops all l :: k) _ β _ w h (hs.put (by simpa [Nat.blt_eq] using hd) hok)
theorem xop_one {C : Ctx} (hE : EnvOK C.P C.E) (hres : C.fn.results = C.res.toArray) {all l : List Oper} {k : List It} {d : Nat} {ty : TypeId} {pos : String} {after : Array Edge} {gd : Option (Nat × Bool)} {fr : List (Nat × SV)} {rows : List (Nat × Bool × SRow)} {nx n : Nat}
    {x : Operand} {t e : TypeId} {kd : IntKind} {p : Int} {z0 : Value} (fuel : Nat) (hd : Nat.blt d n = true) (hx : ev fr x = some (.int kd p))
    (ht : C.P.underlying t = some (.slice e)) (hs : ∀ w, (sizeOf e).run C.P w = .ok 1 w) (hz : ∀ w, (zeroValue e).run C.P w = .ok z0 w) (hz1 : z0.cells = #[z0])
    (h : ∀ g, wpS C fuel (.ops all l :: k) ⟨(d, .any (.slice (some ⟨g, 0, none⟩) 1 1)) :: fr, (nx, true, .blob (OwnI e g 1 1 [.int kd p])) :: rows, nx + 1, n⟩) :
    XopN C all l k ⟨some d, .buildSlice t 1 ⟨[(0, x)]⟩, ty, pos, after, gd⟩ ⟨fr, rows, nx, n⟩ :=
  xop_build hE hres [.int kd p] fuel hd rfl (by unfold maxLen; omega) (fun β a w hsat => by
    have e1 := (ev_sound hsat hx).1
    have q0 : (underlying t).run C.P w = .ok (.slice e) w := by simp [underlying, ht]
    simp [Instr.buildSlice, q0, hs, hz, hz1, e1, SV.den, fill1 (.int kd p) rfl, newRow, World.alloc_eq]) h
/-- a block that is there gets a number -/
theorem Sat.learn {base : Nat} {w0 : Base} {β : Nat → Nat} {a : Act} {w : World} {fr : List (Nat × SV)} {rows : List (Nat × Bool × SRow)} {nx n b : Nat} {o : Bool} {Φ : Nat → Option Obj → Prop} (hs : Sat base w0 ⟨fr, rows, nx, n⟩ β a w) (hb : b < w.heap.size) (hΦ : Φ b w.heap[b]?)
    (ho : o = true → base ≤ b ∧ ∀ i o' r, get rows i = some (o', r) → β i ≠ b) (hn : ∀ i r, get rows i = some (true, r) → β i ≠ b) :
    Sat base w0 ⟨fr, (nx, o, .blob Φ) :: rows, nx + 1, n⟩ (fun i => if i = nx then b else β i) a w := by
  obtain ⟨h1, h2, h3, h4⟩ := hs
  have hbe : ∀ i, i < nx → (fun i => if i = nx then b else β i) i = β i := fun i hi => by dsimp only; rw [if_neg (by omega)]
  refine ⟨h1, h2, fun s v hv => ?_, ?_⟩
  · obtain ⟨k1, k2⟩ := h3 s v hv
    exact ⟨by rw [k1, SV.den_ext hbe v k2], SV.ok_mono (Nat.le_succ _) v k2⟩
  · refine ⟨h4.below, h4.base_le, fun i ow r' hi => ?_, fun i hi => ?_, fun i j r' oj rj hi hj hji => ?_, Nat.le_trans h4.n0 (Nat.le_succ _), fun i hi => ?_⟩
    · rw [get_cons] at hi
      by_cases e : nx = i
      · rw [if_pos e] at hi
        cases hi
        subst e
        dsimp only
        rw [if_pos rfl]
        exact ⟨⟨hb, hΦ⟩, trivial, by omega, fun h => (ho h).1⟩
      · rw [if_neg e] at hi
        obtain ⟨k1, k2, k3, k4⟩ := h4.row i ow r' hi
        have k3 : i < nx := k3
        dsimp only
        rw [if_neg (by omega)]
        exact ⟨RowIs_ext hbe k2 k1, SRow.ok_mono (Nat.le_succ _) r' k2, by omega, k4⟩
    · have hi : i < nx + 1 := hi
      by_cases e : i = nx
      · rw [if_pos e]; exact hb
      · rw [if_neg e]; exact h4.lt i (show i < nx by omega)
    · rw [get_cons] at hi hj
      by_cases e : nx = i
      · rw [if_pos e] at hi
        cases hi
        rw [if_neg (by omega)] at hj
        rw [if_pos e.symm, if_neg (by omega)]
        exact (ho rfl).2 j oj rj hj
      · rw [if_neg e] at hi
        rw [if_neg (by omega : ¬ i = nx)]
        by_cases ej : nx = j
        · rw [if_pos ej.symm]; exact fun e0 => hn i r' hi e0.symm
        · rw [if_neg ej] at hj; rw [if_neg (by omega)]; exact h4.inj i j r' oj rj hi hj hji
    · have h5 : w0.n0 ≤ nx := h4.n0
      have e : ¬ i = nx := by omega
      rw [if_neg e]; exact h4.ext i hi
/-- what a slice shows, in a world -/
def SlAt (a : Option Addr) (xs : List Value) (w : World) : Prop := ∀ i v, xs[i]? = some v → ∃ ad, a = some ad ∧ ad.block < w.heap.size ∧ w.cell? (ad.add i) = some v
/-- what a slice shows, all in one block -/
def SlB (a : Option Addr) (xs : List Value) (b : Nat) (o : Option Obj) : Prop := ∀ w : World, w.heap[b]? = o → ∀ i v, xs[i]? = some v → ∃ ad, a = some ad ∧ ad.block = b ∧ w.cell? (ad.add i) = some v
def Fresh (a : Option Addr) (w : World) : Prop := ∀ ad, a = some ad → w.heap.size ≤ ad.block
theorem add_block (a : Addr) (k : Nat) : (a.add k).block = a.block := by unfold Addr.add; split <;> rfl
theorem SlAt.below {a : Option Addr} {xs : List Value} {w w' : World} (h : SlAt a xs w) (hb : Below w.heap.size w w') : SlAt a xs w' := fun i v hi => by
  obtain ⟨ad, h1, h2, h3⟩ := h i v hi
  exact ⟨ad, h1, Nat.lt_of_lt_of_le h2 hb.size, by rw [World.cell?_of_block (w := w) (by rw [add_block]; exact hb.block _ h2)]; exact h3⟩
theorem SlAt.some {a : Option Addr} {xs : List Value} {w : World} (h : SlAt a xs w) (hx : xs ≠ []) : ∃ ad, a = some ad := by
  cases xs with
  | nil => exact absurd rfl hx
  | cons x r => obtain ⟨ad, e, _⟩ := h 0 x rfl; exact ⟨ad, e⟩
theorem SlAt.toB {a : Option Addr} {xs : List Value} {w w' : World} {base : Nat} (h : SlAt a xs w') (hf : Fresh a w) (h0 : 0 < base) (hb : base ≤ w'.heap.size) : ∃ b, (w.heap.size ≤ b ∨ b < base) ∧ b < w'.heap.size ∧ SlB a xs b w'.heap[b]? := by
  cases xs with
  | nil => exact ⟨0, .inr h0, by omega, fun _ _ i v hi => by simp at hi⟩
  | cons x r =>
    obtain ⟨ad, e, h1, _⟩ := h 0 x rfl
    refine ⟨ad.block, .inl (hf ad e), h1, fun W hW i v hi => ?_⟩
    obtain ⟨ad', e', h2, h3⟩ := h i v hi
    rw [e] at e'
    cases e'
    exact ⟨ad, e, rfl, by rw [World.cell?_of_block (w := w') (by rw [add_block]; exact hW)]; exact h3⟩
theorem SlB.at {a : Option Addr} {xs : List Value} {b : Nat} {w : World} (h : SlB a xs b w.heap[b]?) (hb : b < w.heap.size) : SlAt a xs w := fun i v hi => by
  obtain ⟨ad, h1, h2, h3⟩ := h w rfl i v hi
  exact ⟨ad, h1, by omega, h3⟩
theorem xop_of {C : Ctx} (hE : EnvOK C.P C.E) (hres : C.fn.results = C.res.toArray) {all l : List Oper} {k : List It} {o : Oper} {st : St} (fuel : Nat) (h : OpX C o st (fun st' => wpS C fuel (.ops all l :: k) st')) : XopN C all l k o st := by
  unfold OpX at h
  unfold XopN
  exact fun β a w hs => h β a w hs _ _ (fun st' β' a' w' hK hs' => wpS_sound hE hres fuel (.ops all l :: k) st' β' a' w' hK hs')
theorem call_of {C : Ctx} (hE : EnvOK C.P C.E) (hres : C.fn.results = C.res.toArray) {all l : List Oper} {k : List It} {dst : Option Nat} {f : FuncId} {args : List SV} {st : St} (fuel : Nat) (h : CallX C dst f args st (fun st' => wpS C fuel (.ops all l :: k) st')) : CallN C all l k dst f args st := by
  unfold CallX at h
  unfold CallN
  refine ⟨h.1, fun β a w hs => (h.2 β a w hs).mono ?_⟩
  rintro e w' ⟨v, st', β', rfl, hK, hs'⟩
  exact wpS_sound hE hres fuel (.ops all l :: k) st' β' _ w' hK hs'
theorem opx_val {C : Ctx} {d : Nat} {op : Op} {ty : TypeId} {pos : String} {after : Array Edge} {gd : Option (Nat × Bool)} {fr : List (Nat × SV)} {rows : List (Nat × Bool × SRow)} {nx n : Nat} {K : St → Prop}
    (v : SV) (hd : Nat.blt d n = true) (hok : v.ok nx) (hr : ∀ β a w, Sat C.base C.w0 ⟨fr, rows, nx, n⟩ β a w → (execOp a.eval ⟨some d, op, ty, pos, after, gd⟩).run C.P w = .ok (.value (v.den β)) w)
    (h : K ⟨(d, v) :: fr, rows, nx, n⟩) : OpX C ⟨some d, op, ty, pos, after, gd⟩ ⟨fr, rows, nx, n⟩ K := by
  unfold OpX
  intro β a w hs next Q hn
  unfold Oper.wp
  rw [hr β a w hs]
  exact hn _ β _ w h (hs.put (by simpa [Nat.blt_eq] using hd) hok)
theorem opx_build {C : Ctx} {d : Nat} {ty : TypeId} {pos : String} {after : Array Edge} {gd : Option (Nat × Bool)} {fr : List (Nat × SV)} {rows : List (Nat × Bool × SRow)} {nx n len : Nat} {K : St → Prop}
    {ps : List (Nat × Operand)} {t e : TypeId} (xs : List Value) (hd : Nat.blt d n = true) (hl : xs.length = len) (hm : len ≤ maxLen)
    (hr : ∀ β a w, Sat C.base C.w0 ⟨fr, rows, nx, n⟩ β a w → (Instr.buildSlice t len (ps.toArray.map fun (i, x) => (i, a.eval x))).run C.P w = .ok (.slice (some ⟨w.heap.size, 0, none⟩) len len) (w.alloc (.cells xs.toArray e)))
    (h : ∀ g, K ⟨(d, .any (.slice (some ⟨g, 0, none⟩) len len)) :: fr, (nx, true, .blob (OwnI e g len len xs)) :: rows, nx + 1, n⟩) :
    OpX C ⟨some d, .buildSlice t len ⟨ps⟩, ty, pos, after, gd⟩ ⟨fr, rows, nx, n⟩ K := by
  unfold OpX
  intro β a w hs next Q hn
  have hrun := hr β a w hs
  unfold Oper.wp
  have : (execOp a.eval ⟨some d, .buildSlice t len ⟨ps⟩, ty, pos, after, gd⟩).run C.P w = .ok (.value (.slice (some ⟨w.heap.size, 0, none⟩) len len)) (w.alloc (.cells xs.toArray e)) := by
    simp only [execOp, Sem.run_bind]
    rw [hrun]; simp
  rw [this]
  have hs2 := hs.alloc (r := .blob (OwnI e w.heap.size len len xs)) trivial (.cells xs.toArray e) (fun β' hb => ⟨by simp, rfl, xs.toArray, by have := Row.new w e xs.toArray; unfold Row at this; exact this, Nat.le_refl _, hm, by simp [hl], by simp [List.take_of_length_le, hl], hl⟩) rfl
  have hs3 := hs2.put (d := d) (by simpa [Nat.blt_eq] using hd) (v := .any (.slice (some ⟨w.heap.size, 0, none⟩) len len)) rfl
  exact hn _ _ _ _ (h w.heap.size) hs3
theorem opx_one {C : Ctx} {d : Nat} {ty : TypeId} {pos : String} {after : Array Edge} {gd : Option (Nat × Bool)} {fr : List (Nat × SV)} {rows : List (Nat × Bool × SRow)} {nx n : Nat} {K : St → Prop}
    {x : Operand} {t e : TypeId} {kd : IntKind} {p : Int} {z0 : Value} (hd : Nat.blt d n = true) (hx : ev fr x = some (.int kd p))
    (ht : C.P.underlying t = some (.slice e)) (hs : ∀ w, (sizeOf e).run C.P w = .ok 1 w) (hz : ∀ w, (zeroValue e).run C.P w = .ok z0 w) (hz1 : z0.cells = #[z0])
    (h : ∀ g, K ⟨(d, .any (.slice (some ⟨g, 0, none⟩) 1 1)) :: fr, (nx, true, .blob (OwnI e g 1 1 [.int kd p])) :: rows, nx + 1, n⟩) :
    OpX C ⟨some d, .buildSlice t 1 ⟨[(0, x)]⟩, ty, pos, after, gd⟩ ⟨fr, rows, nx, n⟩ K :=
  opx_build [.int kd p] hd rfl (by unfold maxLen; omega) (fun β a w hsat => by
    have e1 := (ev_sound hsat hx).1
    have q0 : (underlying t).run C.P w = .ok (.slice e) w := by simp [underlying, ht]
    simp [Instr.buildSlice, q0, hs, hz, hz1, e1, SV.den, fill1 (.int kd p) rfl, newRow, World.alloc_eq]) h
/-- a call that answers with a slice of its own making, among others -/
theorem callSl {C : Ctx} (hE : EnvOK C.P C.E) (hres : C.fn.results = C.res.toArray) {all l : List Oper} {k : List It} {d : Nat} {f : FuncId} {args : List SV} {fr : List (Nat × SV)} {rows : List (Nat × Bool × SRow)} {nx n : Nat} {T : Type}
    (V : T → SV) (A : T → Option Addr) (X : T → List Value) (fuel : Nat) (h0 : 0 < C.base)
    (he : entersB C.P f = true) (hd : Nat.blt d n = true) (hv : ∀ t, (V t).ok nx) (hc : ∀ β w, Mem C.base C.w0 rows nx β w → Calls C.P f (SV.dens β args).toArray w fun e w' => Below w.heap.size w w' ∧ ∃ t, e = .returned ((V t).den β) ∧ SlAt (A t) (X t) w' ∧ Fresh (A t) w)
    (h : ∀ t, (X t ≠ [] → ∃ ad, A t = some ad) → wpS C fuel (.ops all l :: k) ⟨(d, V t) :: fr, (nx, false, .blob (SlB (A t) (X t))) :: rows, nx + 1, n⟩) : CallN C all l k (some d) f args ⟨fr, rows, nx, n⟩ := by
  unfold CallN
  refine ⟨he, fun β a w hs => (hc β w hs.mem).mono ?_⟩
  rintro e w' ⟨hb, t, rfl, hsl, hfr⟩
  have hm := hs.mem
  obtain ⟨b, h1, h2, h3⟩ := hsl.toB hfr h0 (Nat.le_trans hm.base_le hb.size)
  have hs' : Sat C.base C.w0 ⟨fr, rows, nx, n⟩ β a w' := ⟨hs.defers, hs.size, hs.slot, hm.belowNext hb⟩
  have hs2 := hs'.learn (o := false) h2 h3 (fun e => by cases e) (fun i r hi => by
    have := hm.lt i (hm.row i true r hi).2.2.1
    have := (hm.row i true r hi).2.2.2 rfl
    omega)
  have hs3 := hs2.put (d := d) (by simpa [Nat.blt_eq] using hd) (SV.ok_mono (Nat.le_succ _) _ (hv t))
  have e1 : (V t).den (fun i => if i = nx then b else β i) = (V t).den β := SV.den_ext (n := nx) (fun i hi => by rw [if_neg (by omega)]) _ (hv t)
  rw [e1] at hs3
  exact wpS_sound hE hres fuel (.ops all l :: k) _ _ _ w' (h t (fun hx => hsl.some hx)) hs3
/-- a cell of a slice, read -/
theorem x_loadB {C : Ctx} {G : Blobs} {x : Operand} {t : TypeId} {a : Addr} {j : Nat} {xs : List Value} (i : Nat) (v : SV) (hag : ∀ w, (isAgg t).run C.P w = .ok false w) (ri : G i = some (SlB (some a) xs)) (hv : ∀ β, xs[j]? = some (v.den β)) :
    ExtN C G (.load t x) [.any (.pointer (some (a.add j)))] v := by
  unfold ExtN
  intro ρ β w dst ty pos after gd _ hG h
  have e1 : ρ x = .pointer (some (a.add j)) := by simpa [opsX, SV.dens, SV.den] using h
  obtain ⟨h1, h2⟩ := hG i _ ri
  obtain ⟨ad, e, _, hc⟩ := h2 w rfl j _ (hv β)
  cases e
  simp [execOp, Instr.loadAt, Instr.sureAddr, e1, loadVar, hag, hc]
/-- several cells of a slice, read as one value -/
theorem x_loadBs {C : Ctx} {G : Blobs} {x : Operand} {t : TypeId} {a : Addr} {j : Nat} {xs : List Value} (i : Nat) (vs : List SV) (hag : ∀ w, (isAgg t).run C.P w = .ok true w) (hs : ∀ w, (sizeOf t).run C.P w = .ok vs.length w) (ri : G i = some (SlB (some a) xs))
    (hv : ∀ β m v, (SV.dens β vs)[m]? = some v → xs[j + m]? = some v) : ExtN C G (.load t x) [.any (.pointer (some (a.add j)))] (.agg vs) := by
  unfold ExtN
  intro ρ β w dst ty pos after gd _ hG h
  have e1 : ρ x = .pointer (some (a.add j)) := by simpa [opsX, SV.dens, SV.den] using h
  obtain ⟨h1, h2⟩ := hG i _ ri
  have := run_loadCells_list (P := C.P) w (a.add j) (SV.dens β vs) (fun m v hm => by
    obtain ⟨ad, e, _, hc⟩ := h2 w rfl (j + m) v (hv β m v hm)
    cases e
    rw [Go.Deep.add_add]; exact hc)
  rw [SV.dens_len] at this
  simp [execOp, Instr.loadAt, Instr.sureAddr, e1, loadVar, hag, hs, this, SV.den]
end Sym
end Go.Proofs.YtmodjglbjempkaaGreatDoor
namespace Go.Proofs.YtmodjglbjempkaaGreatDoor
open Go.RowKit
namespace Sym
def OwnS (e : TypeId) (sz g n cap : Nat) (xs : List Value) (b : Nat) (o : Option Obj) : Prop := b = g ∧ ∃ cur, o = some (.cells cur e (0, 0)) ∧ n ≤ cap ∧ cap ≤ maxLen ∧ cur.size = cap * sz ∧ cur.toList.take (n * sz) = xs ∧ xs.length = n * sz
theorem OwnS.owns {e : TypeId} {sz g n cap : Nat} {xs : List Value} {b base : Nat} {w : World} (h : OwnS e sz g n cap xs b w.heap[b]?) (hb : base ≤ b) : w.ownsRow base e sz (.slice (some ⟨g, 0, none⟩) n cap) n xs := by
  obtain ⟨rfl, cur, h1, h2, h3, h4, h5, h6⟩ := h
  exact ⟨h6, .inr ⟨b, cap, cur, rfl, hb, h1, h2, h3, h4, h5⟩⟩
theorem OwnS.cell {e : TypeId} {sz g n cap : Nat} {xs : List Value} {b : Nat} {w : World} (h : OwnS e sz g n cap xs b w.heap[b]?) : ∀ j u, xs[j]? = some u → w.cell? ((⟨g, 0, none⟩ : Addr).add j) = some u := by
  obtain ⟨rfl, cur, h1, h2, h3, h4, h5, h6⟩ := h
  intro j u hj
  rw [add_at]
  have hjn : j < n * sz := by have := (List.getElem?_eq_some_iff.1 hj).1; omega
  have : cur[j]? = some u := by
    rw [← h5, List.getElem?_take, if_pos hjn] at hj
    simpa using hj
  simp [World.cell?, h1, this]
theorem OwnS.slAt {e : TypeId} {sz g n cap : Nat} {xs : List Value} {b : Nat} {w : World} (h : OwnS e sz g n cap xs b w.heap[b]?) (hb : b < w.heap.size) : SlAt (some ⟨g, 0, none⟩) xs w := fun j u hj => ⟨_, rfl, by rw [← h.1]; exact hb, h.cell j u hj⟩
theorem fill_whole {sz : Nat} {u : Value} {xs : List Value} (hu : u.cells = xs.toArray) (hl : xs.length = sz) (A : Array Value) (hA : A.size = sz) : Instr.fill (fun i => some (i * sz, sz)) A [(0, u)] = some xs.toArray := by
  simp only [Instr.fill, hu, Nat.zero_mul]
  rw [if_neg (by simp; omega)]
  congr 1
  have := foldl_set 0 xs 0 A (by omega)
  rw [← Array.foldl_toList, Array.toList_zipIdx]
  simp only [Nat.add_zero, Nat.zero_add] at this ⊢
  refine this.trans ?_
  rw [List.drop_eq_nil_of_le (by simp; omega)]
  simp
theorem opx_build1 {C : Ctx} {d : Nat} {ty : TypeId} {pos : String} {after : Array Edge} {gd : Option (Nat × Bool)} {fr : List (Nat × SV)} {rows : List (Nat × Bool × SRow)} {nx n : Nat} {K : St → Prop}
    {x : Operand} {t e : TypeId} {sz : Nat} {v : SV} {vs : List SV} {xs : List Value} {z0 : Value} (hd : Nat.blt d n = true) (hx : ev fr x = some v) (hc : cellsSV v = some vs) (hxs : ∀ β, SV.dens β vs = xs) (hl : xs.length = sz) (h0 : 0 < sz) (hk : sz ≤ 1000)
    (ht : C.P.underlying t = some (.slice e)) (hs : ∀ w, (sizeOf e).run C.P w = .ok sz w) (hz : ∀ w, (zeroValue e).run C.P w = .ok z0 w)
    (h : ∀ g, K ⟨(d, .any (.slice (some ⟨g, 0, none⟩) 1 1)) :: fr, (nx, true, .blob (OwnS e sz g 1 1 xs)) :: rows, nx + 1, n⟩) :
    OpX C ⟨some d, .buildSlice t 1 ⟨[(0, x)]⟩, ty, pos, after, gd⟩ ⟨fr, rows, nx, n⟩ K := by
  unfold OpX
  intro β a w hs0 next Q hn
  obtain ⟨e1, hok⟩ := ev_sound hs0 hx
  obtain ⟨ec, -⟩ := cells_sound (β := β) hc hok
  rw [hxs β] at ec
  have q0 : (underlying t).run C.P w = .ok (.slice e) w := by simp [underlying, ht]
  have hA : ((Array.range (1 * sz)).map (z0.cells[· % z0.cells.size]!)).size = sz := by simp
  have hf := fill_whole ec hl _ hA
  have hrun : (execOp a.eval ⟨some d, .buildSlice t 1 ⟨[(0, x)]⟩, ty, pos, after, gd⟩).run C.P w = .ok (.value (.slice (some ⟨w.heap.size, 0, none⟩) 1 1)) (w.alloc (.cells xs.toArray e)) := by
    have n1 : ¬ 1 * sz > 2 ^ 24 := by omega
    have n2 : ¬ 1 * sz = 0 := by omega
    simp only [execOp, Sem.run_bind]
    unfold Instr.buildSlice
    simp only [Sem.run_bind, q0, Result.andThen_ok, hs, if_neg n1, if_neg n2, hz, Sem.run_pure]
    have e3 : ((#[(0, x)] : Array (Nat × Operand)).map fun (i, y) => (i, a.eval y)).toList = [(0, v.den β)] := by simp [e1]
    simp only [e3, hf, Sem.run_bind, newRow, World.alloc_eq]
    simp [World.alloc_eq]
  unfold Oper.wp
  rw [hrun]
  have hs2 := hs0.alloc (r := .blob (OwnS e sz w.heap.size 1 1 xs)) trivial (.cells xs.toArray e) (fun β' hb => ⟨by simp, rfl, xs.toArray, by have := Row.new w e xs.toArray; unfold Row at this; exact this, Nat.le_refl _, by unfold maxLen; omega, by simp [hl], by simp [List.take_of_length_le, hl], by omega⟩) rfl
  have hs3 := hs2.put (d := d) (by simpa [Nat.blt_eq] using hd) (v := .any (.slice (some ⟨w.heap.size, 0, none⟩) 1 1)) rfl
  exact hn _ _ _ _ (h w.heap.size) hs3
theorem opx_append {C : Ctx} {d : Nat} {ty : TypeId} {pos : String} {after : Array Edge} {gd : Option (Nat × Bool)} {fr : List (Nat × SV)} {rows : List (Nat × Bool × SRow)} {nx n : Nat} {K : St → Prop}
    {x y : Operand} {t e : TypeId} {sz : Nat} (i j : Nat) {g n1 cap1 g2 m c2 : Nat} {xs ys : List Value} {inf : TypeInfo} {z : Value} (hd : Nat.blt d n = true)
    (ht : C.P.underlying t = some (.slice e)) (hi : C.P.info? e = some inf) (hz : inf.zero = some z) (hsize : inf.size = sz) (hzs : z.cells.size = sz) (h0 : 0 < sz)
    (hx : ev fr x = some (.any (.slice (some ⟨g, 0, none⟩) n1 cap1))) (hy : ev fr y = some (.any (.slice (some ⟨g2, 0, none⟩) m c2)))
    (ri : get rows i = some (true, .blob (OwnS e sz g n1 cap1 xs))) (rj : get rows j = some (true, .blob (OwnS e sz g2 m c2 ys)))
    (h63 : n1 + m ≤ maxLen) (hbytes : (n1 + m) * inf.bytes ≤ 140737488355328) (h1 : ∀ u ∈ ys, u.oneCell' = true) (hno : (mentF i fr || mentR i rows) = false) (hni : C.w0.n0 ≤ i)
    (h : ∀ g' cap', K ⟨(d, .any (.slice (some ⟨g', 0, none⟩) (n1 + m) cap')) :: fr, (i, true, .blob (OwnS e sz g' (n1 + m) cap' (xs ++ ys))) :: rows, nx, n⟩) :
    OpX C ⟨some d, .call ⟨.builtin .append, ⟨[x, y]⟩, ⟨[t, t]⟩⟩, ty, pos, after, gd⟩ ⟨fr, rows, nx, n⟩ K := by
  unfold OpX
  intro β a w hs next Q hnn0
  have hm := hs.mem
  obtain ⟨qi, -, qi3, qi4⟩ := hm.row i _ _ ri
  obtain ⟨qj, -, qj3, -⟩ := hm.row j _ _ rj
  have qi3 : i < nx := qi3
  have hown := OwnS.owns qi.2 (qi4 rfl)
  have hg : β i = g := qi.2.1
  have hnews := OwnS.cell qj.2
  have hml : ys.length = m * sz := by obtain ⟨-, cur, -, -, -, -, -, h6⟩ := qj.2; exact h6
  obtain ⟨v', w', hr, h2, h3, h4, h5⟩ := run_append_own_at (P := C.P) w C.base t ty e inf z sz inf.bytes ht hi hz hsize rfl hzs h0 _ n1 xs hown ⟨g2, 0, none⟩ m c2 ys hml hnews h1 h63 hbytes hm.base_le
  have hnn : ¬ v' = .slice none 0 0 := fun e0 => by have := (h4.1 e0).1; cases this
  obtain ⟨hlen, hor⟩ := h2
  rcases hor with ⟨e0, e1⟩ | ⟨g', cap', cur, rfl, hb', hc', hn', hm', hs', ht'⟩
  · exact absurd e0 hnn
  have hblk : g' = g ∨ g' = w.heap.size := by simpa [Value.ownBlock] using h5
  unfold Oper.wp
  have e1 := (ev_sound hs hx).1
  have e2 := (ev_sound hs hy).1
  have hrun : (execOp a.eval ⟨some d, .call ⟨.builtin .append, ⟨[x, y]⟩, ⟨[t, t]⟩⟩, ty, pos, after, gd⟩).run C.P w = .ok (.value (.slice (some ⟨g', 0, none⟩) (n1 + m) cap')) w' := by
    unfold execOp
    simp only [resolve, invoke, builtin, Sem.run_bind, Sem.run_pure, Result.andThen_ok, List.map_toArray, List.map_cons, List.map_nil, e1, e2, SV.den, hr]
  rw [hrun]
  have hgs : g < w.heap.size := by rw [← hg]; exact qi.1
  have hsz' : g' < w'.heap.size := by
    rcases Nat.lt_or_ge g' w'.heap.size with h0 | h0
    · exact h0
    · rw [Array.getElem?_eq_none h0] at hc'; cases hc'
  have hbg : C.base ≤ g := by rw [← hg]; exact qi4 rfl
  simp only [Bool.or_eq_false_iff] at hno
  have hβ : ∀ q, q ≠ i → (fun q => if q = i then g' else β q) q = β q := fun q hq => by dsimp only; rw [if_neg hq]
  have hapart : ∀ q o r, get rows q = some (o, r) → q ≠ i → β q ≠ g := fun q o r hq hne => by rw [← hg]; exact hm.inj i q _ o r ri hq hne
  have hother : ∀ p o r', get rows p = some (o, r') → p ≠ i → β p ≠ g' := fun p o r' hp hpi => by
    rcases hblk with e0 | e0
    · rw [e0]; exact hapart p o r' hp hpi
    · have := hm.lt p (hm.row p o r' hp).2.2.1; omega
  have hs2 : Sat C.base C.w0 ⟨fr, (i, true, .blob (OwnS e sz g' (n1 + m) cap' (xs ++ ys))) :: rows, nx, n⟩ (fun q => if q = i then g' else β q) a w' := by
    refine ⟨hs.defers, hs.size, fun s v hv => ?_, ⟨hm.below.os ▸ h3.os, hm.below.tape ▸ h3.tape, hm.below.output ▸ h3.output, Nat.le_trans hm.below.size h3.size, fun q hq => ?_⟩, Nat.le_trans hm.base_le h3.size, fun q o r hq => ?_, fun q hq => ?_, fun q p r o r' hq hp hpq => ?_, hm.n0, fun q hq => ?_⟩
    · obtain ⟨k1, k2⟩ := hs.slot s v hv
      exact ⟨by rw [k1, ment_den hβ v (mentF_get fr hno.1 hv)], k2⟩
    · rw [h3.block q (Nat.lt_of_lt_of_le hq hm.base_le) (by simp [Value.ownBlock]; omega)]; exact hm.below.block q hq
    · rw [get_cons] at hq
      by_cases e0 : i = q
      · rw [if_pos e0] at hq
        cases hq
        subst e0
        dsimp only
        rw [if_pos rfl]
        exact ⟨⟨hsz', rfl, cur, hc', hn', hm', hs', ht', hlen⟩, trivial, qi3, fun _ => hb'⟩
      · rw [if_neg e0] at hq
        obtain ⟨k1, k2, k3, k4⟩ := hm.row q o r hq
        have hqi : q ≠ i := fun e => e0 e.symm
        dsimp only
        rw [if_neg hqi]
        have k5 := RowIs_block (h3.block _ (hm.lt q k3) (by simp [Value.ownBlock]; exact hapart q o r hq hqi)) h3.size k1
        refine ⟨?_, k2, k3, k4⟩
        cases r with
        | cells t' cs => simp only [RowIs] at k5 ⊢; rw [ments_den hβ cs (mentR_get rows hno.2 hq)]; exact k5
        | blob Φ => exact k5
    · have hq : q < nx := hq
      by_cases e0 : q = i
      · rw [if_pos e0]; exact hsz'
      · rw [if_neg e0]; exact Nat.lt_of_lt_of_le (hm.lt q hq) h3.size
    · rw [get_cons] at hq hp
      by_cases e0 : i = q
      · rw [if_neg (by omega)] at hp
        rw [if_pos e0.symm, if_neg (by omega)]
        exact hother p o r' hp (by omega)
      · rw [if_neg e0] at hq
        rw [if_neg (by omega : ¬ q = i)]
        by_cases e2 : i = p
        · rw [if_pos e2.symm]; exact fun e3 => hother q _ _ hq (by omega) e3.symm
        · rw [if_neg e2] at hp
          rw [if_neg (by omega)]
          exact hm.inj q p r o r' hq hp hpq
    · rw [if_neg (by omega)]; exact hm.ext q hq
  have hs3 := hs2.put (d := d) (by simpa [Nat.blt_eq] using hd) (v := .any (.slice (some ⟨g', 0, none⟩) (n1 + m) cap')) rfl
  exact hnn0 _ _ _ _ (h g' cap') hs3
/-- the first append, to no slice at all -/
theorem opx_append0 {C : Ctx} {d : Nat} {ty : TypeId} {pos : String} {after : Array Edge} {gd : Option (Nat × Bool)} {fr : List (Nat × SV)} {rows : List (Nat × Bool × SRow)} {nx n : Nat} {K : St → Prop}
    {x y : Operand} {t e : TypeId} {sz : Nat} (j : Nat) {g2 m c2 : Nat} {ys : List Value} {inf : TypeInfo} {z : Value} (hd : Nat.blt d n = true)
    (ht : C.P.underlying t = some (.slice e)) (hi : C.P.info? e = some inf) (hz : inf.zero = some z) (hsize : inf.size = sz) (hzs : z.cells.size = sz) (h0 : 0 < sz)
    (hx : ev fr x = some (.any (.slice none 0 0))) (hy : ev fr y = some (.any (.slice (some ⟨g2, 0, none⟩) m c2)))
    (rj : get rows j = some (true, .blob (OwnS e sz g2 m c2 ys)))
    (h63 : m ≤ maxLen) (hbytes : m * inf.bytes ≤ 140737488355328) (h1 : ∀ u ∈ ys, u.oneCell' = true) (hm0 : 0 < m)
    (h : ∀ g' cap', K ⟨(d, .any (.slice (some ⟨g', 0, none⟩) m cap')) :: fr, (nx, true, .blob (OwnS e sz g' m cap' ys)) :: rows, nx + 1, n⟩) :
    OpX C ⟨some d, .call ⟨.builtin .append, ⟨[x, y]⟩, ⟨[t, t]⟩⟩, ty, pos, after, gd⟩ ⟨fr, rows, nx, n⟩ K := by
  unfold OpX
  intro β a w hs next Q hnn0
  have hm := hs.mem
  obtain ⟨qj, -, qj3, -⟩ := hm.row j _ _ rj
  have hnews := OwnS.cell qj.2
  have hml : ys.length = m * sz := by obtain ⟨-, cur, -, -, -, -, -, h6⟩ := qj.2; exact h6
  obtain ⟨v', w', hr, h2, h3, h4, h5⟩ := run_append_own_at (P := C.P) w C.base t ty e inf z sz inf.bytes ht hi hz hsize rfl hzs h0 _ 0 [] (owns_nil w C.base e sz) ⟨g2, 0, none⟩ m c2 ys hml hnews h1 (by omega) (by rw [Nat.zero_add]; exact hbytes) hm.base_le
  have hnn : ¬ v' = .slice none 0 0 := fun e0 => by have := (h4.1 e0).2; omega
  obtain ⟨hlen, hor⟩ := h2
  rcases hor with ⟨e0, e1⟩ | ⟨g', cap', cur, rfl, hb', hc', hn', hm', hs', ht'⟩
  · exact absurd e0 hnn
  have hblk : g' = w.heap.size := by simpa [Value.ownBlock] using h5
  unfold Oper.wp
  have e1 := (ev_sound hs hx).1
  have e2 := (ev_sound hs hy).1
  have hrun : (execOp a.eval ⟨some d, .call ⟨.builtin .append, ⟨[x, y]⟩, ⟨[t, t]⟩⟩, ty, pos, after, gd⟩).run C.P w = .ok (.value (.slice (some ⟨g', 0, none⟩) (0 + m) cap')) w' := by
    unfold execOp
    simp only [resolve, invoke, builtin, Sem.run_bind, Sem.run_pure, Result.andThen_ok, List.map_toArray, List.map_cons, List.map_nil, e1, e2, SV.den, hr]
  rw [hrun]
  simp only [Nat.zero_add, List.nil_append] at *
  have hsz' : g' < w'.heap.size := by
    rcases Nat.lt_or_ge g' w'.heap.size with h0 | h0
    · exact h0
    · rw [Array.getElem?_eq_none h0] at hc'; cases hc'
  have hbel : Below w.heap.size w w' := ⟨h3.os, h3.tape, h3.output, h3.size, fun k hk => h3.block k hk (by simp [Value.ownBlock])⟩
  have hs' : Sat C.base C.w0 ⟨fr, rows, nx, n⟩ β a w' := ⟨hs.defers, hs.size, hs.slot, hm.belowNext hbel⟩
  have hs2 := hs'.learn (o := true) (b := g') (Φ := OwnS e sz g' m cap' ys) hsz' ⟨rfl, cur, hc', hn', hm', by assumption, ht', hlen⟩ (fun _ => ⟨hb', fun i o' r hi => by have := hm.lt i (hm.row i o' r hi).2.2.1; omega⟩) (fun i r hi => by have := hm.lt i (hm.row i true r hi).2.2.1; omega)
  have hs3 := hs2.put (d := d) (by simpa [Nat.blt_eq] using hd) (v := .any (.slice (some ⟨g', 0, none⟩) m cap')) rfl
  exact hnn0 _ _ _ _ (h g' cap') hs3
/-- a call that answers with a slice of its own making, among others; whatever follows -/
theorem callSlX {C : Ctx} {d : Nat} {f : FuncId} {args : List SV} {fr : List (Nat × SV)} {rows : List (Nat × Bool × SRow)} {nx n : Nat} {K : St → Prop} {T : Type}
    (V : T → SV) (A : T → Option Addr) (X : T → List Value) (h0 : 0 < C.base)
    (he : entersB C.P f = true) (hd : Nat.blt d n = true) (hv : ∀ t, (V t).ok nx) (hc : ∀ β w, Mem C.base C.w0 rows nx β w → Calls C.P f (SV.dens β args).toArray w fun e w' => Below w.heap.size w w' ∧ ∃ t, e = .returned ((V t).den β) ∧ SlAt (A t) (X t) w' ∧ Fresh (A t) w)
    (h : ∀ t, (X t ≠ [] → ∃ ad, A t = some ad) → K ⟨(d, V t) :: fr, (nx, false, .blob (SlB (A t) (X t))) :: rows, nx + 1, n⟩) : CallX C (some d) f args ⟨fr, rows, nx, n⟩ K := by
  unfold CallX
  refine ⟨he, fun β a w hs => (hc β w hs.mem).mono ?_⟩
  rintro e w' ⟨hb, t, rfl, hsl, hfr⟩
  have hm := hs.mem
  obtain ⟨b, h1, h2, h3⟩ := hsl.toB hfr h0 (Nat.le_trans hm.base_le hb.size)
  have hs' : Sat C.base C.w0 ⟨fr, rows, nx, n⟩ β a w' := ⟨hs.defers, hs.size, hs.slot, hm.belowNext hb⟩
  have hs2 := hs'.learn (o := false) h2 h3 (fun e => by cases e) (fun i r hi => by
    have := hm.lt i (hm.row i true r hi).2.2.1
    have := (hm.row i true r hi).2.2.2 rfl
    omega)
  have hs3 := hs2.put (d := d) (by simpa [Nat.blt_eq] using hd) (SV.ok_mono (Nat.le_succ _) _ (hv t))
  have e1 : (V t).den (fun i => if i = nx then b else β i) = (V t).den β := SV.den_ext (n := nx) (fun i hi => by rw [if_neg (by omega)]) _ (hv t)
  rw [e1] at hs3
  exact ⟨_, _, _, rfl, h t (fun hx => hsl.some hx), hs3⟩
theorem flat_at {α : Type} {f : α → List Value} {sz : Nat} (hf : ∀ x, (f x).length = sz) : ∀ (L : List α) (k m : Nat) (x : α), L[k]? = some x → m < sz → (L.flatMap f)[k * sz + m]? = (f x)[m]?
  | [], k, m, x, h, _ => by simp at h
  | y :: L, 0, m, x, h, hm => by
    simp only [List.getElem?_cons_zero, Option.some.injEq] at h
    subst h
    rw [List.flatMap_cons, Nat.zero_mul, Nat.zero_add, List.getElem?_append_left (by rw [hf]; exact hm)]
  | y :: L, k + 1, m, x, h, hm => by
    rw [List.flatMap_cons, List.getElem?_append_right (by rw [hf, Nat.succ_mul]; omega), hf]
    have e : (k + 1) * sz + m - sz = k * sz + m := by rw [Nat.succ_mul]; omega
    rw [e]
    exact flat_at hf L k m x (by simpa using h) hm
theorem flat_len {α : Type} {f : α → List Value} {sz : Nat} (hf : ∀ x, (f x).length = sz) (L : List α) : (L.flatMap f).length = L.length * sz := by
  induction L with
  | nil => simp
  | cons x L ih => rw [List.flatMap_cons, List.length_append, ih, hf, List.length_cons, Nat.succ_mul]; omega
end Sym
end Go.Proofs.YtmodjglbjempkaaGreatDoor
namespace Go.Proofs.YtmodjglbjempkaaGreatDoor
open Go.RowKit
namespace Sym
/-- the head of a builder that has been written to -/
def BldH (T : TypeId) (g n cap : Nat) (b : Nat) (o : Option Obj) : Prop := o = some (.cells #[.pointer (some ⟨b, 0, none⟩), .slice (some ⟨g, 0, none⟩) n cap] T (0, 0)) ∧ g ≠ b
/-- its bytes -/
def BldB (e : TypeId) (g n cap : Nat) (bs : List Value) (b : Nat) (o : Option Obj) : Prop := b = g ∧ n = bs.length ∧ ∃ cur fz, o = some (.cells cur e fz) ∧ fz.2 ≤ n * 1 ∧ n ≤ cap ∧ cap ≤ maxLen ∧ cur.size = cap * 1 ∧ cur.toList.take (n * 1) = bs
theorem bld_at {T e : TypeId} {g n cap : Nat} {bs : List Value} {b c base : Nat} {w : World} (h1 : BldH T g n cap b w.heap[b]?) (h2 : BldB e g n cap bs c w.heap[c]?) (hb : base ≤ b) (hc : base ≤ c) : Lib.BuilderAtF T e base b (.pointer (some ⟨b, 0, none⟩)) bs w := by
  obtain ⟨h1, hne⟩ := h1
  obtain ⟨rfl, rfl, cur, fz, k1, k2, k3, k4, k5, k6⟩ := h2
  exact ⟨hb, _, h1, ⟨by simp, .inr ⟨c, cap, cur, fz, rfl, hc, k1, k2, k3, k4, k5, k6⟩⟩, by simp [Value.ownBlock]; exact hne⟩
theorem bld_sat {C : Ctx} {fr : List (Nat × SV)} {rows : List (Nat × Bool × SRow)} {nx n : Nat} {β : Nat → Nat} {a : Act} {w w' : World} (hs : Sat C.base C.w0 ⟨fr, rows, nx, n⟩ β a w) {i j nx' : Nat} {T e : TypeId} {bs' : List Value}
    (hb : Lib.BuilderAtF T e C.base (β i) (.pointer (some ⟨β i, 0, none⟩)) bs' w') (hl : bs' ≠ []) (hbel : Below C.base w w') (hi : i < nx) (hij : i ≠ j) (hnx : nx ≤ nx') (hjn : j < nx') (hq : ∀ q, q < nx' → q = j ∨ q < nx) (hn0 : C.w0.n0 ≤ j)
    (hden : ∀ β' : Nat → Nat, (∀ q, q ≠ j → β' q = β q) → ∀ s v, get fr s = some v → v.den β' = v.den β) :
    ∃ g n' cap', ∃ β' : Nat → Nat, (∀ q, q ≠ j → β' q = β q) ∧ Sat C.base C.w0 ⟨fr, [(i, true, .blob (BldH T g n' cap')), (j, true, .blob (BldB e g n' cap' bs'))], nx', n⟩ β' a w' := by
  obtain ⟨hB, v, hbk, ⟨hlen, hor⟩, hneq⟩ := hb
  rcases hor with ⟨_, h0⟩ | ⟨g, cap, cur, fz, rfl, hg, hgc, k2, k3, k4, k5, k6⟩
  · exact absurd (List.length_eq_zero_iff.1 h0) hl
  have hgi : g ≠ β i := fun e0 => hneq (by simp [Value.ownBlock, e0])
  have hm := hs.mem
  have hgs : g < w'.heap.size := by
    rcases Nat.lt_or_ge g w'.heap.size with h0 | h0
    · exact h0
    · rw [Array.getElem?_eq_none h0] at hgc; cases hgc
  have hβ : ∀ q, q ≠ j → (fun q => if q = j then g else β q) q = β q := fun q hq => by dsimp only; rw [if_neg hq]
  refine ⟨g, bs'.length, cap, fun q => if q = j then g else β q, hβ, ⟨hs.defers, hs.size, fun s u hu => ?_, ⟨hm.below.trans hbel, Nat.le_trans hm.base_le hbel.size, fun q o r hr => ?_, fun q hqn => ?_, fun p q r o r' hp hqq hne => ?_, Nat.le_trans hm.n0 hnx, fun q hqn => ?_⟩⟩⟩
  · obtain ⟨e1, e2⟩ := hs.slot s u hu
    exact ⟨e1.trans (hden _ hβ s u hu).symm, SV.ok_mono hnx u e2⟩
  · simp only [get_cons] at hr
    by_cases e1 : i = q
    · rw [if_pos e1] at hr
      cases hr
      subst e1
      rw [if_neg hij]
      refine ⟨⟨Nat.lt_of_lt_of_le (hm.lt i hi) hbel.size, hbk, hgi⟩, trivial, Nat.lt_of_lt_of_le hi hnx, fun _ => hB⟩
    · rw [if_neg e1] at hr
      by_cases e2 : j = q
      · rw [if_pos e2] at hr
        cases hr
        subst e2
        rw [if_pos rfl]
        exact ⟨⟨hgs, rfl, rfl, cur, fz, hgc, k2, k3, k4, k5, k6⟩, trivial, hjn, fun _ => hg⟩
      · rw [if_neg e2] at hr; simp [get] at hr
  · split
    · exact hgs
    · rename_i e1
      rcases hq q hqn with e2 | e2
      · exact absurd e2 e1
      · exact Nat.lt_of_lt_of_le (hm.lt q e2) hbel.size
  · simp only [get_cons] at hp hqq
    by_cases e1 : i = p
    · subst e1
      by_cases e2 : j = q
      · subst e2
        rw [if_pos rfl, if_neg hij]; exact hgi
      · rw [if_neg (fun e => hne e.symm), if_neg e2] at hqq; simp [get] at hqq
    · rw [if_neg e1] at hp
      by_cases e2 : j = p
      · subst e2
        by_cases e3 : i = q
        · subst e3
          rw [if_neg hij, if_pos rfl]; exact fun e => hgi e.symm
        · rw [if_neg e3, if_neg (fun e => hne e.symm)] at hqq; simp [get] at hqq
      · rw [if_neg e2] at hp; simp [get] at hp
  · have : ¬ q = j := by have hqn : q < C.w0.n0 := hqn; omega
    rw [if_neg this]; exact hm.ext q hqn
theorem callX_bld {C : Ctx} {d : Nat} {f : FuncId} {args : List SV} {fr : List (Nat × SV)} {rows : List (Nat × Bool × SRow)} {nx n : Nat} {K : St → Prop} (V : SV) (i j : Nat) {T e : TypeId} {g m cap : Nat} {bs bs' : List Value}
    (he : entersB C.P f = true) (hd : Nat.blt d n = true) (hv : V.ok nx ∧ ment j V = false) (hi : get rows i = some (true, .blob (BldH T g m cap))) (hj : get rows j = some (true, .blob (BldB e g m cap bs))) (hij : i ≠ j) (hn0 : C.w0.n0 ≤ j) (hno : mentF j fr = false) (hl : bs' ≠ [])
    (hc : ∀ β w, Mem C.base C.w0 rows nx β w → Lib.BuilderAtF T e C.base (β i) (.pointer (some ⟨β i, 0, none⟩)) bs w → Calls C.P f (SV.dens β args).toArray w fun e' w' => e' = .returned (V.den β) ∧ Lib.BuilderAtF T e C.base (β i) (.pointer (some ⟨β i, 0, none⟩)) bs' w' ∧ Below C.base w w')
    (h : ∀ g' n' cap', K ⟨(d, V) :: fr, [(i, true, .blob (BldH T g' n' cap')), (j, true, .blob (BldB e g' n' cap' bs'))], nx, n⟩) : CallX C (some d) f args ⟨fr, rows, nx, n⟩ K := by
  unfold CallX
  refine ⟨he, fun β a w hs => ?_⟩
  have hm := hs.mem
  obtain ⟨qi, -, qi3, qi4⟩ := hm.row i _ _ hi
  obtain ⟨qj, -, qj3, qj4⟩ := hm.row j _ _ hj
  refine (hc β w hm (bld_at qi.2 qj.2 (qi4 rfl) (qj4 rfl))).mono ?_
  rintro e' w' ⟨rfl, hb, hbel⟩
  obtain ⟨g', n', cap', β', hβ, hs2⟩ := bld_sat hs hb hl hbel qi3 hij (Nat.le_refl nx) qj3 (fun q hq => .inr hq) hn0 (fun β' hβ s v hv => ment_den hβ v (mentF_get fr hno hv))
  have hs3 := hs2.put (d := d) (by simpa [Nat.blt_eq] using hd) hv.1
  rw [ment_den hβ V hv.2] at hs3
  exact ⟨_, _, _, rfl, h g' n' cap', hs3⟩
/-- the first writing -/
theorem callX_bld0 {C : Ctx} {d : Nat} {f : FuncId} {args : List SV} {fr : List (Nat × SV)} {rows : List (Nat × Bool × SRow)} {nx n : Nat} {K : St → Prop} (V : SV) (i : Nat) {T e : TypeId} {bs' : List Value}
    (he : entersB C.P f = true) (hd : Nat.blt d n = true) (hv : V.ok nx) (hi : get rows i = some (true, .cells T [.any (.pointer none), .any (.slice none 0 0)])) (hl : bs' ≠ [])
    (hc : ∀ β w, Mem C.base C.w0 rows nx β w → Lib.IsBuilderF T e C.base (β i) [] w → Calls C.P f (SV.dens β args).toArray w fun e' w' => e' = .returned (V.den β) ∧ Lib.BuilderAtF T e C.base (β i) (.pointer (some ⟨β i, 0, none⟩)) bs' w' ∧ Below C.base w w')
    (h : ∀ g' n' cap', K ⟨(d, V) :: fr, [(i, true, .blob (BldH T g' n' cap')), (nx, true, .blob (BldB e g' n' cap' bs'))], nx + 1, n⟩) : CallX C (some d) f args ⟨fr, rows, nx, n⟩ K := by
  unfold CallX
  refine ⟨he, fun β a w hs => ?_⟩
  have hm := hs.mem
  obtain ⟨qi, -, qi3, qi4⟩ := hm.row i _ _ hi
  have qi3 : i < nx := qi3
  have q1 : Row w (β i) T (SV.dens β [.any (.pointer none), .any (.slice none 0 0)]).toArray := qi
  refine (hc β w hm (.inl ⟨qi4 rfl, .slice none 0 0, q1, ⟨rfl, .inl ⟨rfl, rfl⟩⟩, by simp [Value.ownBlock]⟩)).mono ?_
  rintro e' w' ⟨rfl, hb, hbel⟩
  obtain ⟨g', n', cap', β', hβ, hs2⟩ := bld_sat (j := nx) hs hb hl hbel qi3 (by omega) (Nat.le_succ nx) (Nat.lt_succ_self nx) (fun q hq => by omega) hm.n0 (fun β' hβ s v hv => SV.den_ext (n := nx) (fun q hq => hβ q (by omega)) v (hs.slot s v hv).2)
  have hs3 := hs2.put (d := d) (by simpa [Nat.blt_eq] using hd) (SV.ok_mono (Nat.le_succ _) V hv)
  rw [SV.den_ext (n := nx) (fun q hq => hβ q (by omega)) V hv] at hs3
  exact ⟨_, _, _, rfl, h g' n' cap', hs3⟩
/-- a call behind which nothing is known of the blocks -/
theorem callX_drop {C : Ctx} {d : Nat} {f : FuncId} {args : List SV} {fr : List (Nat × SV)} {rows : List (Nat × Bool × SRow)} {nx n : Nat} {K : St → Prop} (V : SV)
    (he : entersB C.P f = true) (hd : Nat.blt d n = true) (hv : V.ok nx)
    (hc : ∀ β w, Mem C.base C.w0 rows nx β w → Calls C.P f (SV.dens β args).toArray w fun e' w' => e' = .returned (V.den β) ∧ Below C.base w w')
    (h : K ⟨(d, V) :: fr, [], nx, n⟩) : CallX C (some d) f args ⟨fr, rows, nx, n⟩ K := by
  unfold CallX
  refine ⟨he, fun β a w hs => ?_⟩
  have hm := hs.mem
  refine (hc β w hm).mono ?_
  rintro e' w' ⟨rfl, hbel⟩
  have hs2 : Sat C.base C.w0 ⟨fr, [], nx, n⟩ β a w' := ⟨hs.defers, hs.size, hs.slot, hm.below.trans hbel, Nat.le_trans hm.base_le hbel.size, fun i o r h => by simp [get] at h, fun i hi => Nat.lt_of_lt_of_le (hm.lt i hi) hbel.size, fun i j r o r' h => by simp [get] at h, hm.n0, hm.ext⟩
  exact ⟨_, _, β, rfl, h, hs2.put (by simpa [Nat.blt_eq] using hd) hv⟩
theorem ments_any (j : Nat) : ∀ caps : List Value, ments j (caps.map SV.any) = false
  | [] => rfl
  | v :: r => by simp only [List.map_cons, ments, ment, Bool.false_or]; exact ments_any j r
theorem dens_any (β : Nat → Nat) : ∀ caps : List Value, SV.dens β (caps.map SV.any) = caps
  | [] => rfl
  | v :: r => by simp only [List.map_cons, SV.dens, SV.den, dens_any β r]
theorem oks_any {n : Nat} : ∀ caps : List Value, (∀ v ∈ caps, v.oneCell' = true) → SV.oks n (caps.map SV.any)
  | [], _ => trivial
  | v :: r, h => ⟨h v (by simp), oks_any r (fun u hu => h u (by simp [hu]))⟩
/-- a new beginning: what is known of blocks becomes a fact of the world -/
theorem rebase {P : Program} {E : Env} {base : Nat} {w0 : Base} {fn : Func} {res : List ResultVar} {R : Ending → World → Prop} {sc sb : List Nat} {k : List It} {st : St} (hE : EnvOK P E) (hres : fn.results = res.toArray) (fr' : List (Nat × SV)) (fuel : Nat) (sc' sb' : List Nat)
    (hfr : wkF st.fr 0 fr')
    (h : ∀ β w, Mem base w0 st.rows st.next β w → wpS ⟨P, E, w.heap.size, Base.of w, fn, res, R, sc', sb'⟩ fuel k ⟨fr', [], 0, st.n⟩) : StopN ⟨P, E, base, w0, fn, res, R, sc, sb⟩ k st := by
  unfold StopN
  intro β a w hs
  refine wpS_sound (C := ⟨P, E, w.heap.size, Base.of w, fn, res, R, sc', sb'⟩) hE hres fuel k _ β a w (h β w hs.mem) ⟨hs.defers, hs.size, fun s v hv => ?_, Below.refl _ _, Nat.le_refl _, fun i o r h => by simp [get] at h, fun i (h : i < 0) => by omega, fun i j r o r' h => by simp [get] at h, Nat.le_refl _, fun i (h : i < 0) => by omega⟩
  obtain ⟨u, g1, g2, g3⟩ := wkF_sound hfr hv
  exact ⟨by rw [← eqSV_sound β u v g2]; exact (hs.slot s u g1).1, g3⟩
end Sym
end Go.Proofs.YtmodjglbjempkaaGreatDoor
namespace Go.Proofs.YtmodjglbjempkaaGreatDoor
open Go.RowKit
namespace Sym
theorem contQ_goto {P : Program} {fn : Func} {R : Ending → World → Prop} {l : Nat} {a : Act} {w : World} : ∀ k : List It, contQ P (bodyPost P fn R) k (.goto l) a w → False
  | [], h => h
  | .code c :: k, h => contQ_goto k h
  | .ops all l :: k, h => contQ_goto k h
  | .inBlk id :: k, h => contQ_goto k h
  | .back I :: k, h => contQ_goto k h
theorem scopeN {C : Ctx} {c : Code} {k : List It} {st : St} (hE : EnvOK C.P C.E) (hres : C.fn.results = C.res.toArray) (fuel : Nat) (h : wpS C fuel (.code c :: k) st) : CodeN C (.scope c) k st := by
  unfold CodeN
  intro β a w hs
  have h1 : c.wp C.P (contQ C.P C.Q k) a w := wpS_sound hE hres fuel _ st β a w h hs
  refine wp_scope_straight (Code.wp_mono (fun e a w hq => ?_) h1)
  cases e with
  | goto l => exact (contQ_goto k hq).elim
  | _ => exact hq
end Sym
end Go.Proofs.YtmodjglbjempkaaGreatDoor
