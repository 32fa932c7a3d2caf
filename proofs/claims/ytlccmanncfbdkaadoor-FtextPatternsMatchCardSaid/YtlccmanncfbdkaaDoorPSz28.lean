/- A walk that reckons: a callee that writes to blocks of its caller, walked in place, in any region; a block of one's own under another number. -/
import Derived.Test.YtlccmanncfbdkaaDoorPGD
set_option linter.unusedSimpArgs false
set_option linter.unusedVariables false
namespace Go.Proofs.YtlccmanncfbdkaaDoor
open Go.RowKit
namespace Sym
theorem inlineX {C : Ctx} (hE : EnvOK C.P C.E) {d : Nat} {f : FuncId} {args : List SV} {fr : List (Nat × SV)} {rows : List (Nat × Bool × SRow)} {nx n : Nat} {K : St → Prop}
    {fn : Func} {c : Code} {res : List ResultVar} {nt : Nat} (hf : C.P.funcs[f]? = some fn) (hb : fn.body = some c) (hres' : fn.results = res.toArray) (hnt : fn.ntmps = nt) (he : entersB C.P f = true) (hd : Nat.blt d n = true) (hv : SV.oks nx args) (hlen : args.length ≤ nt)
    {T : Type} (V : T → SV) (Rw : T → List (Nat × Bool × SRow)) (sc sb : List Nat) (fuel : Nat)
    (h1 : ∀ (R' : Ending → World → Prop) (β0 : Nat → Nat), (∀ (t : T) (st' : St) (v : SV), wkV v st' (V t) (Rw t) nx → RetN ⟨C.P, C.E, C.base, ⟨C.w0.w, β0, nx⟩, fn, res, R', sc, sb⟩ st' v) → wpS ⟨C.P, C.E, C.base, ⟨C.w0.w, β0, nx⟩, fn, res, R', sc, sb⟩ fuel [.code c] ⟨argSlots 0 args, rows, nx, nt⟩)
    (h2 : ∀ t, K ⟨(d, V t) :: fr, Rw t, nx, n⟩) : CallX C (some d) f args ⟨fr, rows, nx, n⟩ K := by
  unfold CallX
  refine ⟨he, fun β a w hs => ?_⟩
  let R' : Ending → World → Prop := fun e w' => ∃ t β', e = .returned ((V t).den β') ∧ (V t).ok nx ∧ Mem C.base ⟨C.w0.w, β, nx⟩ (Rw t) nx β' w'
  have hm := hs.mem
  have run : Calls C.P f (SV.dens β args).toArray w R' := by
    refine calls_of_wp hf hb ?_
    refine wpS_sound (C := ⟨C.P, C.E, C.base, ⟨C.w0.w, β, nx⟩, fn, res, R', sc, sb⟩) hE hres' fuel [.code c] _ β _ w (h1 R' β ?_) ?_
    · intro t st' v hw
      obtain ⟨w1, w2, w3, w4⟩ := hw
      have hle : nx ≤ st'.next := Nat.le_of_ble_eq_true w1
      unfold RetN
      intro β' w' hm'
      refine ⟨t, β', ?_, w3, ?_⟩
      · rw [eqSV_sound β' v _ w2]
      · refine ⟨hm'.below, hm'.base_le, fun i o r hi => ?_, fun i hi => hm'.lt i (Nat.lt_of_lt_of_le hi hle), fun i j r oj rj hi hj hji => ?_, Nat.le_refl _, hm'.ext⟩
        · obtain ⟨g1, g2, r', g3, g4⟩ := wkR_sound w4 hi
          obtain ⟨m1, m2, m3, m4⟩ := hm'.row i o r' g3
          exact ⟨g4 _ _ _ m1, g2, g1, m4⟩
        · obtain ⟨g1, g2, r', g3, g4⟩ := wkR_sound w4 hi
          obtain ⟨_, _, rj', f3, _⟩ := wkR_sound w4 hj
          exact hm'.inj i j r' oj rj' g3 f3 hji
    · refine ⟨rfl, ?_, fun s v hs' => ?_, hm.below, hm.base_le, hm.row, hm.lt, hm.inj, Nat.le_refl _, fun i _ => rfl⟩
      · simp [SV.dens_len, hnt]; omega
      · obtain ⟨_, h2⟩ := argSlots_get args 0 hs'
        have h2 : args[s]? = some v := by simpa using h2
        refine ⟨?_, SV.oks_get args s v hv h2⟩
        have hs' : s < args.length := (List.getElem?_eq_some_iff.1 h2).1
        rw [Array.getD_eq_getD_getElem?, Array.getElem?_append_left (by simpa [SV.dens_len] using hs')]
        simp [SV.dens_get, h2]
  refine run.mono ?_
  rintro e w' ⟨t, β', rfl, hok, hm'⟩
  have hext : ∀ i, i < nx → β' i = β i := fun i hi => hm'.ext i hi
  have hs' : Sat C.base C.w0 ⟨fr, Rw t, nx, n⟩ β' a w' := by
    refine ⟨hs.defers, hs.size, fun s v hv' => ?_, hm'.below, hm'.base_le, hm'.row, hm'.lt, hm'.inj, hm.n0, fun i hi => ?_⟩
    · obtain ⟨q1, q2⟩ := hs.slot s v hv'
      exact ⟨by rw [q1, SV.den_ext hext v q2], q2⟩
    · rw [hext i (Nat.lt_of_lt_of_le hi hm.n0)]; exact hm.ext i hi
  exact ⟨_, _, β', rfl, h2 t, hs'.put (by simpa [Nat.blt_eq] using hd) hok⟩
/-- a block of one's own gets the number i; of the others only q's is kept -/
theorem Sat.take {base : Nat} {w0 : Base} {β : Nat → Nat} {a : Act} {w : World} {fr : List (Nat × SV)} {rows : List (Nat × Bool × SRow)} {nx n : Nat} (i j q : Nat) {Φ Ψ : Nat → Option Obj → Prop} {o : Bool} (hs : Sat base w0 ⟨fr, rows, nx, n⟩ β a w) (hj : get rows j = some (true, .blob Φ)) (hq : get rows q = some (o, .blob Ψ))
    (hi : i < nx) (hqi : q ≠ i) (hqj : q ≠ j) (hn0 : w0.n0 ≤ i) (hno : mentF i fr = false) : Sat base w0 ⟨fr, [(i, true, .blob Φ), (q, o, .blob Ψ)], nx, n⟩ (fun p => if p = i then β j else β p) a w := by
  obtain ⟨h1, h2, h3, h4⟩ := hs
  have hβ : ∀ p, p ≠ i → (fun p => if p = i then β j else β p) p = β p := fun p hp => by dsimp only; rw [if_neg hp]
  obtain ⟨k1, -, k3, k4⟩ := h4.row j _ _ hj
  obtain ⟨l1, -, l3, l4⟩ := h4.row q _ _ hq
  have hqn : β q ≠ β j := h4.inj j q _ _ _ hj hq hqj
  have hcase : ∀ p ow r, get [(i, true, SRow.blob Φ), (q, o, SRow.blob Ψ)] p = some (ow, r) → (p = i ∧ ow = true ∧ r = .blob Φ) ∨ (p = q ∧ ow = o ∧ r = .blob Ψ) := fun p ow r hp => by
    rw [get_cons] at hp
    by_cases e : i = p
    · rw [if_pos e] at hp; cases hp; exact .inl ⟨e.symm, rfl, rfl⟩
    · rw [if_neg e, get_cons] at hp
      by_cases e2 : q = p
      · rw [if_pos e2] at hp; cases hp; exact .inr ⟨e2.symm, rfl, rfl⟩
      · rw [if_neg e2] at hp; cases hp
  refine ⟨h1, h2, fun s v hv => ?_, ?_⟩
  · obtain ⟨e1, e2⟩ := h3 s v hv
    exact ⟨by rw [e1, ment_den hβ v (mentF_get fr hno hv)], e2⟩
  refine ⟨h4.below, h4.base_le, fun p ow r hp => ?_, fun p hp => ?_, fun p p' r ow r' hp hp' hpp => ?_, h4.n0, fun p hp => ?_⟩
  · rcases hcase p ow r hp with ⟨rfl, rfl, rfl⟩ | ⟨rfl, rfl, rfl⟩
    · try dsimp only
      rw [if_pos rfl]
      exact ⟨k1, trivial, hi, fun _ => k4 rfl⟩
    · try dsimp only
      rw [if_neg hqi]
      exact ⟨l1, trivial, l3, l4⟩
  · have hp : p < nx := hp
    try dsimp only
    split
    · exact h4.lt j k3
    · exact h4.lt p hp
  · try dsimp only
    rcases hcase p true r hp with ⟨rfl, -, rfl⟩ | ⟨rfl, ho, rfl⟩
    · rcases hcase p' ow r' hp' with ⟨rfl, -, -⟩ | ⟨rfl, -, -⟩
      · exact absurd rfl hpp
      · rw [if_neg hqi, if_pos rfl]; exact hqn
    · rcases hcase p' ow r' hp' with ⟨rfl, -, -⟩ | ⟨rfl, -, -⟩
      · rw [if_pos rfl, if_neg hqi]; exact fun e => hqn e.symm
      · exact absurd rfl hpp
  · have hp : p < w0.n0 := hp
    try dsimp only
    rw [if_neg (by omega)]; exact h4.ext p hp
theorem back_take {C : Ctx} {I : Act → World → Prop} {fr : List (Nat × SV)} {rows : List (Nat × Bool × SRow)} {nx n : Nat} (i j q : Nat) {Φ Ψ : Nat → Option Obj → Prop} {o : Bool} (hj : get rows j = some (true, .blob Φ)) (hq : get rows q = some (o, .blob Ψ))
    (hi : Nat.blt i nx = true) (hqi : Nat.beq q i = false) (hqj : Nat.beq q j = false) (hn0 : C.w0.n0 ≤ i) (hno : mentF i fr = false) (h : BackN C I ⟨fr, [(i, true, .blob Φ), (q, o, .blob Ψ)], nx, n⟩) : BackN C I ⟨fr, rows, nx, n⟩ := by
  unfold BackN at h ⊢
  intro β a w hs
  exact h _ a w (hs.take i j q hj hq (by simpa [Nat.blt_eq] using hi) (Nat.ne_of_beq_eq_false hqi) (Nat.ne_of_beq_eq_false hqj) hn0 hno)
end Sym
end Go.Proofs.YtlccmanncfbdkaaDoor
