/- A walk that reckons: the walk is so; functions, loops, ways that meet. A walk that reckons: operations by lemma; steps of rows and columns as an argument. -/
import Derived.Test.YtfodbfbljeeojaaGreatDoorESzX
import Derived.Deep.Slices
set_option linter.unusedSimpArgs false
set_option linter.unusedVariables false
namespace Go.Proofs.YtfodbfbljeeojaaGreatDoor
open Go.RowKit
namespace Sym
section
variable {β : Nat → Nat} {a : Act} {w : World}
/-- what the walk reckons is so -/
theorem wpS_sound {C : Ctx} (hE : EnvOK C.P C.E) (hres : C.fn.results = C.res.toArray) : ∀ (f : Nat) (k : List It) (st : St) (β : Nat → Nat) (a : Act) (w : World), wpS C f k st → Sat C.base C.w0 st β a w → contQ C.P C.Q k .normal a w
  | 0, k, st, β, a, w, h, hs => by simp only [wpS] at h; unfold StopN at h; exact h β a w hs
  | f + 1, [], st, β, a, w, h, hs => (retS_sound hE hres hs h).2
  | f + 1, .inBlk id :: k, st, β, a, w, h, hs => wpS_sound hE hres f k st β a w h hs
  | f + 1, .back I :: k, st, β, a, w, h, hs => by simp only [wpS] at h; unfold BackN at h; exact h β a w hs
  | f + 1, .ops all [] :: k, st, β, a, w, h, hs => wpS_sound hE hres f k st β a w h hs
  | f + 1, .ops all (⟨dst, op, ty, pos, after, g⟩ :: l) :: k, st, β, a, w, h, hs => by
    have goS : Region.wanted ⟨dst, op, ty, pos, after, g⟩ (yielded all.toArray a.tmps) = true → opS C all l k ⟨dst, op, ty, pos, after, g⟩ st (fun st' => wpS C f (.ops all l :: k) st') → contQ C.P C.Q (.ops all (⟨dst, op, ty, pos, after, g⟩ :: l) :: k) .normal a w := fun hw h => by
      show wpList C.P all.toArray (contQ C.P C.Q k) (⟨dst, op, ty, pos, after, g⟩ :: l) a w
      unfold wpList
      rw [if_pos hw]
      left
      exact opS_sound hE hs h (fun st' β' a' w' hK hs' => wpS_sound hE hres f _ st' β' a' w' hK hs')
    have skS : Region.wanted ⟨dst, op, ty, pos, after, g⟩ (yielded all.toArray a.tmps) = false → putD dst (.tup []) st (fun st' => wpS C f (.ops all l :: k) st') → contQ C.P C.Q (.ops all (⟨dst, op, ty, pos, after, g⟩ :: l) :: k) .normal a w := fun hw h => by
      show wpList C.P all.toArray (contQ C.P C.Q k) (⟨dst, op, ty, pos, after, g⟩ :: l) a w
      unfold wpList
      rw [if_neg (by rw [hw]; simp)]
      obtain ⟨st', hK, hs'⟩ := putD_sound hs (v := .tup []) trivial h
      exact wpS_sound hE hres f _ st' β _ w hK hs'
    simp only [wpS] at h
    cases g with
    | none => exact goS rfl h
    | some p =>
      obtain ⟨j, want⟩ := p
      cases hg : guardV all st.fr j with
      | none => simp only [hg] at h
      | some q =>
        obtain ⟨t, v⟩ := q
        obtain ⟨y1, y2⟩ := guard_sound hs hg
        simp only [hg] at h
        have lits : ∀ b, v.den β = .bool b → yielded all.toArray a.tmps j = some b := y1
        have hwant : ∀ b, v.den β = .bool b → Region.wanted ⟨dst, op, ty, pos, after, some (j, want)⟩ (yielded all.toArray a.tmps) = (b == want) := fun b e => by
          simp only [Region.wanted, lits b e]; cases b <;> cases want <;> rfl
        have split : br v (wpS C f (.ops all (⟨dst, op, ty, pos, after, some (j, want)⟩ :: l) :: k) (st.put t (.lit true))) (wpS C f (.ops all (⟨dst, op, ty, pos, after, some (j, want)⟩ :: l) :: k) (st.put t (.lit false))) → contQ C.P C.Q (.ops all (⟨dst, op, ty, pos, after, some (j, want)⟩ :: l) :: k) .normal a w := fun h => by
          obtain ⟨b, e1, ht, hf⟩ := br_sound (β := β) h
          have e0 := (guard_slot hs hg).trans e1
          cases b with
          | true => exact wpS_sound hE hres f _ _ β a w (ht rfl) (hs.know (v := .lit true) e0 trivial)
          | false => exact wpS_sound hE hres f _ _ β a w (hf rfl) (hs.know (v := .lit false) e0 trivial)
        cases v with
        | lit b =>
          simp only at h
          cases hb : b == want with
          | true => rw [hb] at h; exact goS ((hwant b rfl).trans hb) h
          | false => rw [hb] at h; exact skS ((hwant b rfl).trans hb) h
        | tup vs => exact skS (by simp only [Region.wanted, y2 (fun b e => by simp [SV.den] at e)]; rfl) h
        | bool b => exact split h
        | prop p hp => exact split h
        | _ => exact (split h)
  | f + 1, .code c :: k, st, β, a, w, h, hs => by
    show c.wp C.P (contQ C.P C.Q k) a w
    cases c <;> simp only [wpS] at h
    case skip => exact wp_skip (wpS_sound hE hres f k st β a w h hs)
    case label l => exact wp_label (wpS_sound hE hres f k st β a w h hs)
    case seq x y => exact wp_seq (wpS_sound hE hres f (.code x :: .code y :: k) st β a w h hs)
    case cond c x y =>
      split at h
      · unfold StopN at h; exact h β a w hs
      cases hc : ev st.fr c with
      | none => simp only [hc] at h
      | some v =>
        simp only [hc] at h
        obtain ⟨e, _⟩ := ev_sound hs hc
        obtain ⟨b, e1, ht, hf⟩ := br_sound (β := β) h
        refine wp_cond_split (e.trans e1) (fun hb => wpS_sound hE hres f (.code x :: k) st β a w (ht hb) hs) (fun hb => wpS_sound hE hres f (.code y :: k) st β a w (hf hb) hs)
    case block id c =>
      split at h
      · unfold StopN at h; exact h β a w hs
      exact wp_block (wpS_sound hE hres f (.code c :: .inBlk id :: k) st β a w h hs)
    case exit id =>
      cases hp : popTo id k with
      | none => simp only [hp] at h
      | some k' =>
        simp only [hp] at h
        exact wp_exit (by rw [contQ_exit _ _ _ _ _ _ _ hp]; exact wpS_sound hE hres f k' st β a w h hs)
    case ret => exact wp_ret (by rw [contQ_ret]; exact (retS_sound hE hres hs h).1)
    case region id ops draw =>
      obtain ⟨l⟩ := ops
      cases draw with
      | false => exact wp_region_lit (wpS_sound hE hres f (.ops l l :: k) st β a w h hs)
      | true =>
        simp only at h
        have hX : (Region.noSelect l.toArray = true ∧ wpX C [] l 1000 (l.map fun _ => false) st (fun st' => wpS C f k st')) → (Code.region id ⟨l⟩ true).wp C.P (contQ C.P C.Q k) a w := fun h =>
          regionX_sound hE (fun i o r h => by simp [get] at h) h.1 h.2 hs (fun i x h => by simp [get] at h) (fun st' β' a' w' hK hs' => wpS_sound hE hres f k st' β' a' w' hK hs')
        cases hsc : mem (id + 300000) C.sb with
        | true => simp only [hsc] at h; unfold StopN at h; exact h β a w hs
        | false =>
        simp only [hsc] at h
        cases hsd : mem (id + 200000) C.sb with
        | true => simp only [hsd] at h; exact regionY_sound hE h.1 h.2 hs (fun st' β' a' w' hK hs' => wpS_sound hE hres f k st' β' a' w' hK hs')
        | false =>
        simp only [hsd] at h
        cases hsb : mem (id + 100000) C.sb with
        | true => simp only [hsb] at h; exact hX h
        | false =>
        simp only [hsb] at h
        cases hq : qOps l with
        | false =>
          simp only [hq] at h
          cases hd : dOps l with
          | false => simp only [hd] at h; exact hX h
          | true =>
            simp only [hd] at h
            exact region_sound hE h hs (fun st' a' w' hK hs' => wpS_sound hE hres f k st' β a' w' hK hs')
        | true =>
          simp only [hq] at h
          obtain ⟨fr, rows, nx, n⟩ := st
          have := wpQ_sound (β := β) hE 1000 l fr a w h.2 hs
          refine wp_region_quiet (C := Mem C.base C.w0 rows nx β) (env_mixed hE) h.1 hs.mem.drew (wpQuiet_mono (fun a' ha' w' hw' => ?_) l a this)
          obtain ⟨st', hK, hs'⟩ := ha' w' hw'
          exact wpS_sound hE hres f k st' β _ w' hK hs'
    case loop c => unfold LoopN at h; exact h β a w hs
    case rangeFunc => unfold CodeN at h; exact h β a w hs
    case scope => unfold CodeN at h; exact h β a w hs
    case goto => unfold CodeN at h; exact h β a w hs
    case refuse => unfold CodeN at h; exact h β a w hs

def argSlots : Nat → List SV → List (Nat × SV)
  | _, [] => []
  | i, v :: r => (i, v) :: argSlots (i + 1) r
theorem argSlots_get {s : Nat} {v : SV} : ∀ (vs : List SV) (i : Nat), get (argSlots i vs) s = some v → i ≤ s ∧ vs[s - i]? = some v
  | [], i, h => by simp [argSlots, get] at h
  | u :: r, i, h => by
    simp only [argSlots, get_cons] at h
    by_cases e : i = s
    · rw [if_pos e] at h; cases h; subst e; simp
    · rw [if_neg e] at h
      obtain ⟨h1, h2⟩ := argSlots_get r (i + 1) h
      refine ⟨by omega, ?_⟩
      rw [show s - i = (s - (i + 1)) + 1 by omega]; simpa using h2
/-- a function is entered -/
theorem enter {P : Program} {E : Env} (hE : EnvOK P E) {f : FuncId} {fn : Func} {c : Code} {res : List ResultVar} {nt : Nat} (hf : P.funcs[f]? = some fn) (hb : fn.body = some c) (hres : fn.results = res.toArray) (hnt : fn.ntmps = nt)
    (sc sb : List Nat) (vs : List SV) (hv : SV.oks 0 vs) (hlen : vs.length ≤ nt) (w : World) (R : Ending → World → Prop) (fuel : Nat)
    (h : wpS ⟨P, E, w.heap.size, Base.of w, fn, res, R, sc, sb⟩ fuel [.code c] ⟨argSlots 0 vs, [], 0, nt⟩) : Calls P f (SV.dens (fun _ => 0) vs).toArray w R := by
  refine calls_of_wp hf hb ?_
  refine wpS_sound (C := ⟨P, E, w.heap.size, Base.of w, fn, res, R, sc, sb⟩) hE hres fuel [.code c] _ (fun _ => 0) _ w h ?_
  refine ⟨rfl, ?_, fun s v hs => ?_, ?_⟩
  · simp [SV.dens_len, hnt]; omega
  · obtain ⟨_, h2⟩ := argSlots_get vs 0 hs
    have h2 : vs[s]? = some v := by simpa using h2
    refine ⟨?_, SV.oks_get vs s v hv h2⟩
    have hs' : s < vs.length := (List.getElem?_eq_some_iff.1 h2).1
    rw [Array.getD_eq_getD_getElem?, Array.getElem?_append_left (by simpa [SV.dens_len] using hs')]
    simp [SV.dens_get, h2]
  · refine ⟨Below.refl _ _, Nat.le_refl _, fun i o r h => by simp [get] at h, fun i (h : i < 0) => by omega, fun i j r o r' h => by simp [get] at h, Nat.le_refl _, fun i (h : i < 0) => by omega⟩
/-- a call whose answer is known: what it makes is new, nothing else is touched -/
theorem call {C : Ctx} (hE : EnvOK C.P C.E) (hres : C.fn.results = C.res.toArray) {all l : List Oper} {k : List It} {d : Nat} {f : FuncId} {args : List SV} {fr : List (Nat × SV)} {rows : List (Nat × Bool × SRow)} {nx n : Nat} (v : SV) (fuel : Nat)
    (he : entersB C.P f = true) (hd : Nat.blt d n = true) (hv : v.ok nx) (hc : ∀ β w, Mem C.base C.w0 rows nx β w → Calls C.P f (SV.dens β args).toArray w fun e w' => e = .returned (v.den β) ∧ Below w.heap.size w w')
    (h : wpS C fuel (.ops all l :: k) ⟨(d, v) :: fr, rows, nx, n⟩) : CallN C all l k (some d) f args ⟨fr, rows, nx, n⟩ := by
  unfold CallN
  refine ⟨he, fun β a w hs => (hc β w hs.mem).mono ?_⟩
  rintro e w' ⟨rfl, hb⟩
  refine wpS_sound hE hres fuel (.ops all l :: k) _ β _ w' h ?_
  have hs' : Sat C.base C.w0 ⟨fr, rows, nx, n⟩ β a w' := ⟨hs.defers, hs.size, hs.slot, hs.mem.belowNext hb⟩
  exact hs'.put (by simpa [Nat.blt_eq] using hd) hv
theorem ret {C : Ctx} {st : St} {v : SV} (h : ∀ β w, Mem C.base C.w0 st.rows st.next β w → C.R (.returned (v.den β)) w) : RetN C st v := by
  unfold RetN; exact h

theorem quiet {P : Program} {f : FuncId} {args : Array Value} {v : Value} (h : Calls P f args w fun e w' => e = .returned v ∧ w = w') : Calls P f args w fun e w' => e = .returned v ∧ Below w.heap.size w w' :=
  h.mono fun _ _ ⟨he, hw⟩ => ⟨he, hw ▸ Below.refl _ _⟩

theorem retW {C : Ctx} {st : St} {v : SV} (h : ∀ β w', Below C.base C.w0.w w' → C.R (.returned (v.den β)) w') : RetN C st v := by
  unfold RetN; exact fun β w hm => h β w hm.below
/-- the post 'this value, and nothing old is touched' -/
theorem retB {P : Program} {E : Env} {w0 : World} {fn : Func} {res : List ResultVar} {V : Value} {st : St} {v : SV} {sc sb : List Nat} (h : ∀ β, v.den β = V) :
    RetN ⟨P, E, w0.heap.size, Base.of w0, fn, res, fun e w' => e = .returned V ∧ Below w0.heap.size w0 w', sc, sb⟩ st v := retW fun β w' hb => ⟨by rw [h β], hb⟩

mutual
theorem eqSV_sound (β : Nat → Nat) : ∀ (u v : SV), eqSV u v → u.den β = v.den β
  | .int k n, v, h => by
    cases v <;> simp only [eqSV] at h
    case int k' m =>
      cases hk : ikEq k k' with
      | false => rw [hk] at h; exact h.elim
      | true => rw [hk] at h; rw [ikEq_eq hk, show n = m from h]
  | .str s, v, h => by cases v <;> simp only [eqSV] at h; rw [h]
  | .ptr i o, v, h => by cases v <;> simp only [eqSV] at h; rw [h.1, h.2]
  | .fn s cs, v, h => by cases v <;> simp only [eqSV] at h; rw [h.1, h.2]
  | .any s, v, h => by cases v <;> simp only [eqSV] at h; rw [h]
  | .lit b, v, h => by cases v <;> simp only [eqSV, isB, bval, cond_true, cond_false] at h <;> first | exact h.elim | (subst h; rfl) | (rw [h]; rfl)
  | .bool b, v, h => by cases v <;> simp only [eqSV, isB, bval, cond_true, cond_false] at h <;> first | exact h.elim | (subst h; rfl) | (rw [h]; rfl)
  | .prop p hp, v, h => by cases v <;> simp only [eqSV, isB, bval, cond_true, cond_false] at h <;> first | exact h.elim | (simp only [SV.den]; rw [h])
  | .agg us, v, h => by
    cases v <;> first | (cases us <;> simp only [eqSV] at h; done) | skip
    case agg vs => simp only [SV.den]; rw [eqAgg_sound β us vs (.inl h)]
  | .tup us, v, h => by
    cases v <;> first | (cases us <;> simp only [eqSV] at h; done) | skip
    case tup vs => simp only [SV.den]; rw [eqAgg_sound β us vs (.inr h)]
theorem eqAgg_sound (β : Nat → Nat) : ∀ (us vs : List SV), (eqSV (.agg us) (.agg vs) ∨ eqSV (.tup us) (.tup vs)) → SV.dens β us = SV.dens β vs
  | [], [], _ => rfl
  | [], _ :: _, h => by simp only [eqSV, or_self] at h
  | _ :: _, [], h => by simp only [eqSV, or_self] at h
  | u :: r, v :: s, h => by
    simp only [eqSV] at h
    have h1 : eqSV u v := by rcases h with h | h <;> exact h.1
    have h2 : eqSV (.agg r) (.agg s) ∨ eqSV (.tup r) (.tup s) := by rcases h with h | h; exact .inl h.2; exact .inr h.2
    simp only [SV.dens]
    rw [eqSV_sound β u v h1, eqAgg_sound β r s h2]
end
theorem eqL_sound (β : Nat → Nat) : ∀ (us vs : List SV), eqL us vs → SV.dens β us = SV.dens β vs
  | [], [], _ => rfl
  | [], _ :: _, h => h.elim
  | _ :: _, [], h => h.elim
  | u :: r, v :: s, h => by simp only [SV.dens]; rw [eqSV_sound β u v h.1, eqL_sound β r s h.2]
theorem eqI {k : IntKind} {n m : Int} (h : n = m) : eqSV (.int k n) (.int k m) := by subst h; cases k <;> simp [eqSV, ikEq]
theorem eqS {s t : List UInt8} (h : s = t) : eqSV (.str s) (.str t) := by simp only [eqSV]; exact h
mutual
theorem eqSV_refl : ∀ v : SV, eqSV v v
  | .lit b => by simp [eqSV, isB, bval]
  | .bool b => by simp [eqSV, isB, bval]
  | .prop p h => by simp [eqSV, isB, bval]
  | .int k n => eqI rfl
  | .str s => eqS rfl
  | .ptr i o => by simp [eqSV]
  | .fn f cs => by simp [eqSV]
  | .any v => by simp [eqSV]
  | .agg cs => (eqSVs_refl cs).1
  | .tup cs => (eqSVs_refl cs).2
theorem eqSVs_refl : ∀ cs : List SV, eqSV (.agg cs) (.agg cs) ∧ eqSV (.tup cs) (.tup cs)
  | [] => by simp [eqSV]
  | v :: r => by
    have h1 := eqSV_refl v
    have h2 := eqSVs_refl r
    simp only [eqSV]
    exact ⟨⟨h1, h2.1⟩, ⟨h1, h2.2⟩⟩
end
theorem wkF_sound {fr : List (Nat × SV)} {nx : Nat} {s : Nat} {v : SV} : ∀ {l : List (Nat × SV)}, wkF fr nx l → get l s = some v → ∃ u, get fr s = some u ∧ eqSV u v ∧ v.ok nx
  | [], _, h => by simp [get] at h
  | (i, x) :: r, hw, h => by
    rw [get_cons] at h
    by_cases e : i = s
    · rw [if_pos e] at h
      cases h; subst e
      have := hw.1
      cases hg : get fr i with
      | none => rw [hg] at this; exact this.elim
      | some u => rw [hg] at this; exact ⟨u, rfl, this⟩
    · rw [if_neg e] at h; exact wkF_sound hw.2 h
theorem wkR_sound {rows : List (Nat × Bool × SRow)} {nx i : Nat} {o : Bool} {r : SRow} : ∀ {l : List (Nat × Bool × SRow)}, wkR rows nx l → get l i = some (o, r) → i < nx ∧ r.ok nx ∧ ∃ r', get rows i = some (o, r') ∧ ∀ w β b, RowIs w β b r' → RowIs w β b r
  | [], _, h => by simp [get] at h
  | (j, o', .cells t cs) :: l, hw, h => by
    rw [get_cons] at h
    by_cases e : j = i
    · rw [if_pos e] at h
      cases h; subst e
      have := hw.1
      split at this
      · rename_i o1 t' cs' hg
        cases hb : Nat.beq t' t && (o == o1) with
        | false => rw [hb] at this; exact this.elim
        | true =>
          rw [hb] at this
          simp only [Bool.and_eq_true, beq_iff_eq] at hb
          obtain ⟨k1, k2, k3⟩ := this
          obtain ⟨hb1, hb2⟩ := hb
          have hb1 := Nat.eq_of_beq_eq_true hb1
          subst hb1; subst hb2
          refine ⟨by simpa [Nat.blt_eq] using k1, k3, _, hg, fun w β b hr => ?_⟩
          simp only [RowIs] at hr ⊢
          rw [← eqL_sound β _ _ k2]; exact hr
      · exact this.elim
    · rw [if_neg e] at h; exact wkR_sound hw.2 h
  | (j, o', .blob Φ) :: l, hw, h => by
    rw [get_cons] at h
    by_cases e : j = i
    · rw [if_pos e] at h
      cases h; subst e
      have := hw.1
      split at this
      · rename_i o1 Ψ hg
        cases hb : o == o1 with
        | false => rw [hb] at this; exact this.elim
        | true =>
          rw [hb] at this
          obtain ⟨k1, k2⟩ := this
          obtain rfl := eq_of_beq hb
          exact ⟨by simpa [Nat.blt_eq] using k1, trivial, _, hg, fun w β b hr => ⟨hr.1, k2 _ _ hr.2⟩⟩
      · exact this.elim
    · rw [if_neg e] at h; exact wkR_sound hw.2 h
theorem wk_sound {st st' : St} {base : Nat} {w0 : Base} (hn0 : w0.n0 ≤ st'.next) (h : wk st st') (hs : Sat base w0 st β a w) : Sat base w0 st' β a w := by
  obtain ⟨fr, rows, nx, n⟩ := st
  obtain ⟨fr', rows', nx', n'⟩ := st'
  simp only [wk] at h
  cases hb : Nat.beq n n' && Nat.ble nx' nx with
  | false => rw [hb] at h; exact h.elim
  | true =>
    rw [hb] at h
    simp only [Bool.and_eq_true] at hb
    have hn := Nat.eq_of_beq_eq_true hb.1
    have hx := Nat.le_of_ble_eq_true hb.2
    subst hn
    obtain ⟨h1, h2⟩ := h
    obtain ⟨k1, k2, k3, k4⟩ := hs
    refine ⟨k1, k2, fun s v hv => ?_, k4.below, k4.base_le, fun i o r hi => ?_, fun i hi => k4.lt i (show i < nx from Nat.lt_of_lt_of_le hi hx), fun i j r oj rj hi hj hji => ?_, hn0, k4.ext⟩
    · obtain ⟨u, g1, g2, g3⟩ := wkF_sound h1 hv
      exact ⟨by rw [← eqSV_sound β u v g2]; exact (k3 s u g1).1, g3⟩
    · obtain ⟨g1, g2, r', g3, g4⟩ := wkR_sound h2 hi
      obtain ⟨m1, m2, m3, m4⟩ := k4.row i o r' g3
      exact ⟨g4 _ _ _ m1, g2, g1, m4⟩
    · obtain ⟨g1, g2, r', g3, g4⟩ := wkR_sound h2 hi
      obtain ⟨_, _, rj', f3, _⟩ := wkR_sound h2 hj
      exact k4.inj i j r' oj rj' g3 f3 hji
/-- a loop -/
theorem loop {C : Ctx} (hE : EnvOK C.P C.E) (hres : C.fn.results = C.res.toArray) {c : Code} {k : List It} {st : St} {T : Type} (J : T → St) (μ : T → Nat) (t0 : T) (fuel : Nat) (sc sb : List Nat) (hn0 : ∀ t, C.w0.n0 ≤ (J t).next) (h0 : wk st (J t0))
    (h : ∀ t (I : Act → World → Prop), (∀ st' t', μ t' < μ t → wk st' (J t') → BackN { C with sc := sc, sb := sb } I st') → wpS { C with sc := sc, sb := sb } fuel (.code c :: .back I :: k) (J t)) : LoopN C c k st := by
  unfold LoopN
  intro β a w hs
  refine wp_loop_ghost (fun n a w => ∃ t β, μ t = n ∧ Sat C.base C.w0 (J t) β a w) (μ t0) ⟨t0, β, rfl, wk_sound (hn0 t0) h0 hs⟩ ?_
  rintro n a w ⟨t, β, rfl, hs⟩
  exact wpS_sound (C := { C with sc := sc, sb := sb }) hE hres fuel _ _ β a w (h t _ (fun st' t' hlt hw => by
    unfold BackN
    exact fun β a w hs => ⟨μ t', hlt, t', β, rfl, wk_sound (hn0 t') hw hs⟩)) hs
/-- on with the walk, with other stops -/
theorem go {C : Ctx} (hE : EnvOK C.P C.E) (hres : C.fn.results = C.res.toArray) {k : List It} {st : St} (fuel : Nat) (sc sb : List Nat) (h : wpS { C with sc := sc, sb := sb } fuel k st) : StopN C k st := by
  unfold StopN
  exact fun β a w hs => wpS_sound (C := { C with sc := sc, sb := sb }) hE hres fuel _ _ β a w h hs
/-- the ways through a statement meet again -/
theorem join {C : Ctx} (hE : EnvOK C.P C.E) (hres : C.fn.results = C.res.toArray) {c : Code} {k : List It} {st : St} {T : Type} (J : T → St) (fuel fuel' : Nat) (sc sb sc' sb' : List Nat) (hn0 : ∀ t, C.w0.n0 ≤ (J t).next)
    (h : ∀ (I : Act → World → Prop), (∀ st' t', wk st' (J t') → BackN { C with sc := sc, sb := sb } I st') → wpS { C with sc := sc, sb := sb } fuel (.code c :: .back I :: k) st)
    (h2 : ∀ t, wpS { C with sc := sc', sb := sb' } fuel' k (J t)) : StopN C (.code c :: k) st := by
  unfold StopN
  intro β a w hs
  have h1 := wpS_sound (C := { C with sc := sc, sb := sb }) hE hres fuel _ _ β a w (h (fun a w => ∃ t β, Sat C.base C.w0 (J t) β a w) (fun st' t' hw => by
    unfold BackN
    exact fun β a w hs => ⟨t', β, wk_sound (hn0 t') hw hs⟩)) hs
  refine wp_mono (Q' := contQ C.P C.Q k) h1 ?_
  intro e a' w' hq
  cases e with
  | normal =>
    obtain ⟨t, β', hs'⟩ := hq
    exact wpS_sound (C := { C with sc := sc', sb := sb' }) hE hres fuel' _ _ β' a' w' (h2 t) hs'
  | _ => exact hq
/-- the callee is walked, too: it may write to blocks that the caller knows -/
def wkV (v : SV) (st : St) (V : SV) (rows : List (Nat × Bool × SRow)) (nx : Nat) : Prop := Nat.ble nx st.next = true ∧ eqSV v V ∧ V.ok nx ∧ wkR st.rows nx rows
theorem inline {C : Ctx} (hE : EnvOK C.P C.E) (hres : C.fn.results = C.res.toArray) {all l : List Oper} {k : List It} {d : Nat} {f : FuncId} {args : List SV} {fr : List (Nat × SV)} {rows : List (Nat × Bool × SRow)} {nx n : Nat}
    {fn : Func} {c : Code} {res : List ResultVar} {nt : Nat} (hf : C.P.funcs[f]? = some fn) (hb : fn.body = some c) (hres' : fn.results = res.toArray) (hnt : fn.ntmps = nt) (he : entersB C.P f = true) (hd : Nat.blt d n = true) (hv : SV.oks nx args) (hlen : args.length ≤ nt)
    {T : Type} (V : T → SV) (Rw : T → List (Nat × Bool × SRow)) (sc sb : List Nat) (fuel fuel' : Nat)
    (h1 : ∀ (R' : Ending → World → Prop) (β0 : Nat → Nat), (∀ (t : T) (st' : St) (v : SV), wkV v st' (V t) (Rw t) nx → RetN ⟨C.P, C.E, C.base, ⟨C.w0.w, β0, nx⟩, fn, res, R', sc, sb⟩ st' v) → wpS ⟨C.P, C.E, C.base, ⟨C.w0.w, β0, nx⟩, fn, res, R', sc, sb⟩ fuel [.code c] ⟨argSlots 0 args, rows, nx, nt⟩)
    (h2 : ∀ t, wpS C fuel' (.ops all l :: k) ⟨(d, V t) :: fr, Rw t, nx, n⟩) : CallN C all l k (some d) f args ⟨fr, rows, nx, n⟩ := by
  unfold CallN
  refine ⟨he, fun β a w hs => ?_⟩
  let R' : Ending → World → Prop := fun e w' => ∃ t β', e = .returned ((V t).den β') ∧ (V t).ok nx ∧ Mem C.base ⟨C.w0.w, β, nx⟩ (Rw t) nx β' w'
  have hm := hs.mem
  have run : Calls C.P f (SV.dens β args).toArray w R' := by
    refine calls_of_wp hf hb ?_
    refine wpS_sound (C := ⟨C.P, C.E, C.base, ⟨C.w0.w, β, nx⟩, fn, res, R', sc, sb⟩) hE hres' fuel [.code c] _ β _ w (h1 R' β ?_) ?_
    · intro t st' v hw
      obtain ⟨w1, w2, w3, w4⟩ := hw
      have hle : nx ≤ st'.next := Nat.le_of_ble_eq_true w1
      unfold RetN
      intro β' w' hm'
      refine ⟨t, β', ?_, w3, ?_⟩
      · rw [eqSV_sound β' v _ w2]
      · refine ⟨hm'.below, hm'.base_le, fun i o r hi => ?_, fun i hi => hm'.lt i (Nat.lt_of_lt_of_le hi hle), fun i j r oj rj hi hj hji => ?_, Nat.le_refl _, hm'.ext⟩
        · obtain ⟨g1, g2, r', g3, g4⟩ := wkR_sound w4 hi
          obtain ⟨m1, m2, m3, m4⟩ := hm'.row i o r' g3
          exact ⟨g4 _ _ _ m1, g2, g1, m4⟩
        · obtain ⟨g1, g2, r', g3, g4⟩ := wkR_sound w4 hi
          obtain ⟨_, _, rj', f3, _⟩ := wkR_sound w4 hj
          exact hm'.inj i j r' oj rj' g3 f3 hji
    · refine ⟨rfl, ?_, fun s v hs' => ?_, hm.below, hm.base_le, hm.row, hm.lt, hm.inj, Nat.le_refl _, fun i _ => rfl⟩
      · simp [SV.dens_len, hnt]; omega
      · obtain ⟨_, h2⟩ := argSlots_get args 0 hs'
        have h2 : args[s]? = some v := by simpa using h2
        refine ⟨?_, SV.oks_get args s v hv h2⟩
        have hs' : s < args.length := (List.getElem?_eq_some_iff.1 h2).1
        rw [Array.getD_eq_getD_getElem?, Array.getElem?_append_left (by simpa [SV.dens_len] using hs')]
        simp [SV.dens_get, h2]
  refine run.mono ?_
  rintro e w' ⟨t, β', rfl, hok, hm'⟩
  have hext : ∀ i, i < nx → β' i = β i := fun i hi => hm'.ext i hi
  refine wpS_sound hE hres fuel' (.ops all l :: k) _ β' _ w' (h2 t) ?_
  have hs' : Sat C.base C.w0 ⟨fr, Rw t, nx, n⟩ β' a w' := by
    refine ⟨hs.defers, hs.size, fun s v hv' => ?_, hm'.below, hm'.base_le, hm'.row, hm'.lt, hm'.inj, hm.n0, fun i hi => ?_⟩
    · obtain ⟨q1, q2⟩ := hs.slot s v hv'
      exact ⟨by rw [q1, SV.den_ext hext v q2], q2⟩
    · rw [hext i (Nat.lt_of_lt_of_le hi hm.n0)]; exact hm.ext i hi
  exact hs'.put (by simpa [Nat.blt_eq] using hd) hok
/-- less is known -/
theorem stop_wk {C : Ctx} {k : List It} {st st' : St} (hn0 : C.w0.n0 ≤ st'.next) (h : wk st st') (hs : StopN C k st') : StopN C k st := by
  unfold StopN at hs ⊢
  exact fun β a w hw => hs β a w (wk_sound hn0 h hw)
end
end Sym
end Go.Proofs.YtfodbfbljeeojaaGreatDoor
namespace Go.Proofs.YtfodbfbljeeojaaGreatDoor
open Go.RowKit
namespace Sym
theorem x_len {C : Ctx} {G : Blobs} {x : Operand} {t e : TypeId} {a : Option Addr} {len cap : Nat} (ht : C.P.underlying t = some (.slice e)) : ExtN C G (.call ⟨.builtin .len, ⟨[x]⟩, ⟨[t]⟩⟩) [.any (.slice a len cap)] (.int .i64 (len : Nat)) := by
  unfold ExtN
  intro ρ β w dst ty pos after g _ _ h
  have e1 : ρ x = .slice a len cap := by simpa [opsX, SV.dens, SV.den] using h
  have q : (underlying t).run C.P w = .ok (.slice e) w := by simp [underlying, ht]
  simp [execOp, resolve, invoke, builtin, Builtin.len_, e1, q, SV.den, goInt]
theorem x_index {C : Ctx} {G : Blobs} {x y : Operand} {t e : TypeId} {a : Addr} {len cap j sz : Nat} {i : Int} (hi : i = (j : Nat)) (ht : C.P.underlying t = some (.slice e)) (hs : ∀ w, (sizeOf e).run C.P w = .ok sz w) (hj : j < len) :
    ExtN C G (.indexAddr t x y) [.any (.slice (some a) len cap), .int .i64 i] (.any (.pointer (some (a.add (j * sz))))) := by
  subst hi
  unfold ExtN
  intro ρ β w dst ty pos after g _ _ h
  have h' : ρ x = .slice (some a) len cap ∧ ρ y = .int .i64 (j : Nat) := by simpa [opsX, SV.dens, SV.den] using h
  have q : (underlying t).run C.P w = .ok (.slice e) w := by simp [underlying, ht]
  simp [execOp, Instr.indexAt, h'.1, h'.2, asIntOf, q, hs, hj, SV.den]
theorem x_indexPtr {C : Ctx} {G : Blobs} {x y : Operand} {t e : TypeId} {i off len j sz : Nat} (ht : C.P.underlying t = some (.array len e)) (hs : ∀ w, (sizeOf e).run C.P w = .ok sz w) (hj : j < len) :
    ExtN C G (.indexAddr t x y) [.ptr i off, .int .i64 (j : Nat)] (.ptr i (off + j * sz)) := by
  unfold ExtN
  intro ρ β w dst ty pos after g _ _ h
  have h' : ρ x = .pointer (some ⟨β i, off, none⟩) ∧ ρ y = .int .i64 (j : Nat) := by simpa [opsX, SV.dens, SV.den] using h
  have q : (underlying t).run C.P w = .ok (.array len e) w := by simp [underlying, ht]
  simp [execOp, Instr.indexAt, Instr.sureAddr, h'.1, h'.2, asIntOf, q, hs, hj, SV.den, add_at]
theorem x_load1 {C : Ctx} {G : Blobs} {x : Operand} {t : TypeId} {a : Addr} {v : SV} (hag : ∀ w, (isAgg t).run C.P w = .ok false w) (hc : ∀ w, Below C.base C.w0.w w → ∀ β, w.cell? a = some (v.den β)) :
    ExtN C G (.load t x) [.any (.pointer (some a))] v := by
  unfold ExtN
  intro ρ β w dst ty pos after g hb _ h
  have e1 : ρ x = .pointer (some a) := by simpa [opsX, SV.dens, SV.den] using h
  simp [execOp, Instr.loadAt, Instr.sureAddr, e1, loadVar, hag, hc w hb β]
theorem x_loadAgg {C : Ctx} {G : Blobs} {x : Operand} {t : TypeId} {a : Addr} {vs : List SV} (hag : ∀ w, (isAgg t).run C.P w = .ok true w) (hs : ∀ w, (sizeOf t).run C.P w = .ok vs.length w) (hc : ∀ w, Below C.base C.w0.w w → ∀ β j v, (SV.dens β vs)[j]? = some v → w.cell? (a.add j) = some v) :
    ExtN C G (.load t x) [.any (.pointer (some a))] (.agg vs) := by
  unfold ExtN
  intro ρ β w dst ty pos after g hb _ h
  have e1 : ρ x = .pointer (some a) := by simpa [opsX, SV.dens, SV.den] using h
  have := run_loadCells_list (P := C.P) w a (SV.dens β vs) (fun j v hj => hc w hb β j v hj)
  rw [SV.dens_len] at this
  simp [execOp, Instr.loadAt, Instr.sureAddr, e1, loadVar, hag, hs, this, SV.den]
theorem x_field {C : Ctx} {G : Blobs} {x : Operand} {t : TypeId} {a : Addr} {fs : Array Field} {f : Nat} {fd : Field} {sz : Nat} (ht : C.P.underlying t = some (.struct fs)) (hf : fs[f]? = some fd) (hs : ∀ w, (sizeOf fd.type).run C.P w = .ok sz w) (h0 : sz ≠ 0) :
    ExtN C G (.fieldAddr t x f) [.any (.pointer (some a))] (.any (.pointer (some (a.add fd.offset)))) := by
  unfold ExtN
  intro ρ β w dst ty pos after g hb _ h
  have e1 : ρ x = .pointer (some a) := by simpa [opsX, SV.dens, SV.den] using h
  have q : (underlying t).run C.P w = .ok (.struct fs) w := by simp [underlying, ht]
  simp [execOp, Instr.fieldAt, Instr.sureAddr, e1, q, hf, fieldPlace, hs, h0, SV.den]
theorem x_func {C : Ctx} {G : Blobs} {f : FuncId} {ys : List Operand} {us : List SV} : ExtN C G (.makeFunc (.func f) ⟨[]⟩ ⟨ys⟩) us (.fn f us) := by
  unfold ExtN
  intro ρ β w dst ty pos after g hb _ h
  have h : ys.map ρ = SV.dens β us := by simpa [opsX] using h
  simp [execOp, Instr.makeFunc, SV.den, ← h]
theorem x_indexAgg {C : Ctx} {G : Blobs} {x y : Operand} {t e : TypeId} {len j : Nat} {cs : List SV} {v : SV} (ht : C.P.underlying t = some (.array len e)) (hs : ∀ w, (sizeOf e).run C.P w = .ok 1 w) (hag : ∀ w, (isAgg e).run C.P w = .ok false w) (hj : j < len) (hv : cs[j]? = some v) :
    ExtN C G (.index t x y) [.agg cs, .int .i64 (j : Nat)] v := by
  unfold ExtN
  intro ρ β w dst ty pos after g _ _ h
  have h' : ρ x = .agg (SV.dens β cs).toArray ∧ ρ y = .int .i64 (j : Nat) := by simpa [opsX, SV.dens, SV.den] using h
  have q : (underlying t).run C.P w = .ok (.array len e) w := by simp [underlying, ht]
  have g1 : (SV.dens β cs)[j]? = some (v.den β) := by rw [SV.dens_get, hv]; rfl
  simp [execOp, Instr.index, h'.1, h'.2, asIntOf, q, hs, hag, hj, part, g1]
theorem x_pair {C : Ctx} {G : Blobs} {x y : Operand} {t e : TypeId} {a b : Option Addr} {n c m d : Nat} {z : Value} (ht : C.P.underlying t = some (.array 2 e)) (hs : ∀ w, (sizeOf e).run C.P w = .ok 1 w) (hz : ∀ w, (zeroValue t).run C.P w = .ok z w) (hc : z.cells.size = 2) :
    ExtN C G (.build t ⟨[(0, x), (1, y)]⟩) [.any (.slice a n c), .any (.slice b m d)] (.agg [.any (.slice a n c), .any (.slice b m d)]) := by
  unfold ExtN
  intro ρ β w dst ty pos after g _ _ h
  have h' : ρ x = .slice a n c ∧ ρ y = .slice b m d := by simpa [opsX, SV.dens, SV.den] using h
  have q : (underlying t).run C.P w = .ok (.array 2 e) w := by simp [underlying, ht]
  have h2 : ∃ c0 c1, z.cells = #[c0, c1] := by
    generalize z.cells = zc at hc
    obtain ⟨l⟩ := zc
    match l, hc with
    | [c0, c1], _ => exact ⟨c0, c1, rfl⟩
  obtain ⟨c0, c1, h2⟩ := h2
  have f1 : Instr.fill (fun i => some (i, 1)) #[c0, c1] [(0, .slice a n c), (1, .slice b m d)] = some #[.slice a n c, .slice b m d] := by simp [Instr.fill, Value.cells]
  simp [execOp, Instr.build, h'.1, h'.2, q, hs, hz, h2, f1, SV.den, SV.dens]
/-- steps of rows or columns, as they lie in memory -/
def StepsAt (la : Option Addr) (L : List (Int × Int)) (w : World) : Prop := ∀ i s, L[i]? = some s → ∃ a, la = some a ∧ a.block < w.heap.size ∧ w.cell? (a.add (i * 2)) = some (.int .i64 s.1) ∧ w.cell? (a.add (i * 2 + 1)) = some (.int .i64 s.2)
theorem StepsAt.below {la : Option Addr} {L : List (Int × Int)} {w w' : World} (h : StepsAt la L w) (hb : Below w.heap.size w w') : StepsAt la L w' := fun i s hi => by
  obtain ⟨a, h1, h2, h3, h4⟩ := h i s hi
  have e : ∀ k, (a.add k).block = a.block := fun k => by unfold Addr.add; split <;> rfl
  refine ⟨a, h1, Nat.lt_of_lt_of_le h2 hb.size, ?_, ?_⟩
  · rw [World.cell?_of_block (w := w) (by rw [e]; exact hb.block _ h2)]; exact h3
  · rw [World.cell?_of_block (w := w) (by rw [e]; exact hb.block _ h2)]; exact h4
end Sym
end Go.Proofs.YtfodbfbljeeojaaGreatDoor
