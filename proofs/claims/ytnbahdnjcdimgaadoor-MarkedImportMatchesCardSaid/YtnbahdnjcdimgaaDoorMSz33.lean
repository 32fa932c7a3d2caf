/- A walk that reckons: a call behind which nothing is written any more. -/
import Derived.Test.YtnbahdnjcdimgaaDoorMGE
set_option linter.unusedSimpArgs false
set_option linter.unusedVariables false
namespace Go.Proofs.YtnbahdnjcdimgaaDoor
open Go.RowKit
namespace Sym
/-- a call behind which all blocks are left alone -/
theorem callW {C : Ctx} (hE : EnvOK C.P C.E) (hres : C.fn.results = C.res.toArray) {all l : List Oper} {k : List It} {d : Nat} {f : FuncId} {args : List SV} {fr : List (Nat × SV)} {rows : List (Nat × Bool × SRow)} {nx n : Nat} (V : SV) (Φ : (Nat → Nat) → World → Prop) (fuel : Nat)
    (he : entersB C.P f = true) (hd : Nat.blt d n = true) (hv : V.ok nx) (hpr : ∀ b, ¬ C.w0.pr b) (hc : ∀ β w, Mem C.base C.w0 rows nx β w → Calls C.P f (SV.dens β args).toArray w fun e w' => e = .returned (V.den β) ∧ Below C.base w w' ∧ Φ β w')
    (hΦ : ∀ β β' w, (∀ i, i < nx → β' i = β i) → Φ β w → Φ β' w)
    (h : ∀ w1 : Base, Below C.base C.w0.w w1.w → (∀ β w, Mem C.base w1 [] nx β w → Below w1.w.heap.size w1.w w ∧ Φ β w1.w) → wpS { C with w0 := w1 } fuel (.ops all l :: k) ⟨(d, V) :: fr, [], nx, n⟩) : CallN C all l k (some d) f args ⟨fr, rows, nx, n⟩ := by
  unfold CallN
  refine ⟨he, fun β a w hs => (hc β w hs.mem).mono ?_⟩
  rintro e w' ⟨rfl, hb, hP⟩
  have hm := hs.mem
  refine wpS_sound (C := { C with w0 := ⟨w', β, nx, fun b => b < w'.heap.size⟩ }) hE hres fuel (.ops all l :: k) _ β _ w' (h ⟨w', β, nx, fun b => b < w'.heap.size⟩ (hm.below.trans hb) (fun β' w2 hm2 => ⟨⟨hm2.below.os, hm2.below.tape, hm2.below.output, hm2.below.size, fun q hq => (hm2.pr q hq).2.1⟩, hΦ β β' _ (fun i hi => hm2.ext i hi) hP⟩)) ?_
  have hs' : Sat C.base ⟨w', β, nx, fun b => b < w'.heap.size⟩ ⟨fr, [], nx, n⟩ β a w' := by
    refine ⟨hs.defers, hs.size, hs.slot, Below.refl _ _, Nat.le_trans hm.base_le hb.size, fun i o r hi => by simp [get] at hi, fun i hi => Nat.lt_of_lt_of_le (hm.lt i hi) hb.size, fun i j r o r' hi => by simp [get] at hi, Nat.le_refl _, fun i _ => rfl, fun b hb => ⟨hb, rfl, fun i r hi => by simp [get] at hi⟩⟩
  exact hs'.put (by simpa [Nat.blt_eq] using hd) hv
/-- a call whose answer is one of several -/
theorem callXE {C : Ctx} {d : Nat} {f : FuncId} {args : List SV} {fr : List (Nat × SV)} {rows : List (Nat × Bool × SRow)} {nx n : Nat} {K : St → Prop} {T : Type} (V : T → SV) (P : T → Prop)
    (he : entersB C.P f = true) (hd : Nat.blt d n = true) (hv : ∀ t, (V t).ok nx) (hc : ∀ β w, Mem C.base C.w0 rows nx β w → Calls C.P f (SV.dens β args).toArray w fun e w' => Below w.heap.size w w' ∧ ∃ t, P t ∧ e = .returned ((V t).den β))
    (h : ∀ t, P t → K ⟨(d, V t) :: fr, rows, nx, n⟩) : CallX C (some d) f args ⟨fr, rows, nx, n⟩ K := by
  unfold CallX
  refine ⟨he, fun β a w hs => (hc β w hs.mem).mono ?_⟩
  rintro e w' ⟨hb, t, hP, rfl⟩
  have hs' : Sat C.base C.w0 ⟨fr, rows, nx, n⟩ β a w' := ⟨hs.defers, hs.size, hs.slot, hs.mem.belowNext hb⟩
  exact ⟨_, _, β, rfl, h t hP, hs'.put (by simpa [Nat.blt_eq] using hd) (hv t)⟩
theorem back_sc {C : Ctx} {I : Act → World → Prop} {st : St} (sc sb : List Nat) (h : BackN { C with sc := sc, sb := sb } I st) : BackN C I st := by
  unfold BackN at h ⊢
  exact h
theorem Mem.isB0 {base : Nat} {w0 : Base} {rows : List (Nat × Bool × SRow)} {nx : Nat} {β : Nat → Nat} {w : World} (hm : Mem base w0 rows nx β w) (i : Nat) {T e : TypeId} (hi : get rows i = some (true, .cells T [.any (.pointer none), .any (.slice none 0 0)])) : Lib.IsBuilderF T e base (β i) [] w := by
  obtain ⟨qi, -, -, qi4⟩ := hm.row i _ _ hi
  have q1 : Row w (β i) T (SV.dens β [.any (.pointer none), .any (.slice none 0 0)]).toArray := qi
  exact .inl ⟨qi4 rfl, .slice none 0 0, q1, ⟨rfl, .inl ⟨rfl, rfl⟩⟩, by simp [Value.ownBlock]⟩
theorem Mem.isB {base : Nat} {w0 : Base} {rows : List (Nat × Bool × SRow)} {nx : Nat} {β : Nat → Nat} {w : World} (hm : Mem base w0 rows nx β w) (i j : Nat) {T e : TypeId} {g n cap : Nat} {bs : List Value} (hi : get rows i = some (true, .blob (BldH T g n cap))) (hj : get rows j = some (true, .blob (BldB e g n cap bs))) : Lib.IsBuilderF T e base (β i) bs w := by
  obtain ⟨qi, -, -, qi4⟩ := hm.row i _ _ hi
  obtain ⟨qj, -, -, qj4⟩ := hm.row j _ _ hj
  exact .inr (bld_at qi.2 qj.2 (qi4 rfl) (qj4 rfl))
theorem isB_below {T e : TypeId} {base b : Nat} {bs : List Value} {w w' : World} (h : Lib.IsBuilderF T e base b bs w) (hb : Below w.heap.size w w') : Lib.IsBuilderF T e base b bs w' := by
  have key : ∀ k o, w.heap[k]? = some o → w'.heap[k]? = some o := fun k o hk => by
    have hlt : k < w.heap.size := by
      rcases Nat.lt_or_ge k w.heap.size with q | q
      · exact q
      · rw [Array.getElem?_eq_none q] at hk; cases hk
    rw [hb.block k hlt]; exact hk
  have one : ∀ p, Lib.BuilderAtF T e base b p bs w → Lib.BuilderAtF T e base b p bs w' := fun p h => by
    obtain ⟨h1, v, h2, ⟨h3, h4⟩, h5⟩ := h
    refine ⟨h1, v, key _ _ h2, ⟨h3, ?_⟩, h5⟩
    rcases h4 with h4 | ⟨g, cap, cur, fz, e1, e2, e3, e4⟩
    · exact .inl h4
    · exact .inr ⟨g, cap, cur, fz, e1, e2, key _ _ e3, e4⟩
  exact h.imp (one _) (one _)
end Sym
end Go.Proofs.YtnbahdnjcdimgaaDoor
