/- A walk that reckons: a builder of strings of the function's own; a new beginning in the midst of a walk. -/
import Derived.Test.YtmodjglbjempkaaGreatDoorHSb
import Derived.Lib.FrozenHead
set_option linter.unusedSimpArgs false
set_option linter.unusedVariables false
namespace Go.Proofs.YtmodjglbjempkaaGreatDoor
open Go.RowKit
namespace Sym
/-- the head of a builder that has been written to -/
def BldH (T : TypeId) (g n cap : Nat) (b : Nat) (o : Option Obj) : Prop := o = some (.cells #[.pointer (some ⟨b, 0, none⟩), .slice (some ⟨g, 0, none⟩) n cap] T (0, 0)) ∧ g ≠ b
/-- its bytes -/
def BldB (e : TypeId) (g n cap : Nat) (bs : List Value) (b : Nat) (o : Option Obj) : Prop := b = g ∧ n = bs.length ∧ ∃ cur fz, o = some (.cells cur e fz) ∧ fz.2 ≤ n * 1 ∧ n ≤ cap ∧ cap ≤ maxLen ∧ cur.size = cap * 1 ∧ cur.toList.take (n * 1) = bs
theorem bld_at {T e : TypeId} {g n cap : Nat} {bs : List Value} {b c base : Nat} {w : World} (h1 : BldH T g n cap b w.heap[b]?) (h2 : BldB e g n cap bs c w.heap[c]?) (hb : base ≤ b) (hc : base ≤ c) : Lib.BuilderAtF T e base b (.pointer (some ⟨b, 0, none⟩)) bs w := by
  obtain ⟨h1, hne⟩ := h1
  obtain ⟨rfl, rfl, cur, fz, k1, k2, k3, k4, k5, k6⟩ := h2
  exact ⟨hb, _, h1, ⟨by simp, .inr ⟨c, cap, cur, fz, rfl, hc, k1, k2, k3, k4, k5, k6⟩⟩, by simp [Value.ownBlock]; exact hne⟩
theorem bld_sat {C : Ctx} {fr : List (Nat × SV)} {rows : List (Nat × Bool × SRow)} {nx n : Nat} {β : Nat → Nat} {a : Act} {w w' : World} (hs : Sat C.base C.w0 ⟨fr, rows, nx, n⟩ β a w) {i j nx' : Nat} {T e : TypeId} {bs' : List Value}
    (hb : Lib.BuilderAtF T e C.base (β i) (.pointer (some ⟨β i, 0, none⟩)) bs' w') (hl : bs' ≠ []) (hbel : Below C.base w w') (hi : i < nx) (hij : i ≠ j) (hnx : nx ≤ nx') (hjn : j < nx') (hq : ∀ q, q < nx' → q = j ∨ q < nx) (hn0 : C.w0.n0 ≤ j)
    (hden : ∀ β' : Nat → Nat, (∀ q, q ≠ j → β' q = β q) → ∀ s v, get fr s = some v → v.den β' = v.den β) :
    ∃ g n' cap', ∃ β' : Nat → Nat, (∀ q, q ≠ j → β' q = β q) ∧ Sat C.base C.w0 ⟨fr, [(i, true, .blob (BldH T g n' cap')), (j, true, .blob (BldB e g n' cap' bs'))], nx', n⟩ β' a w' := by
  obtain ⟨hB, v, hbk, ⟨hlen, hor⟩, hneq⟩ := hb
  rcases hor with ⟨_, h0⟩ | ⟨g, cap, cur, fz, rfl, hg, hgc, k2, k3, k4, k5, k6⟩
  · exact absurd (List.length_eq_zero_iff.1 h0) hl
  have hgi : g ≠ β i := fun e0 => hneq (by simp [Value.ownBlock, e0])
  have hm := hs.mem
  have hgs : g < w'.heap.size := by
    rcases Nat.lt_or_ge g w'.heap.size with h0 | h0
    · exact h0
    · rw [Array.getElem?_eq_none h0] at hgc; cases hgc
  have hβ : ∀ q, q ≠ j → (fun q => if q = j then g else β q) q = β q := fun q hq => by dsimp only; rw [if_neg hq]
  refine ⟨g, bs'.length, cap, fun q => if q = j then g else β q, hβ, ⟨hs.defers, hs.size, fun s u hu => ?_, ⟨hm.below.trans hbel, Nat.le_trans hm.base_le hbel.size, fun q o r hr => ?_, fun q hqn => ?_, fun p q r o r' hp hqq hne => ?_, Nat.le_trans hm.n0 hnx, fun q hqn => ?_⟩⟩⟩
  · obtain ⟨e1, e2⟩ := hs.slot s u hu
    exact ⟨e1.trans (hden _ hβ s u hu).symm, SV.ok_mono hnx u e2⟩
  · simp only [get_cons] at hr
    by_cases e1 : i = q
    · rw [if_pos e1] at hr
      cases hr
      subst e1
      rw [if_neg hij]
      refine ⟨⟨Nat.lt_of_lt_of_le (hm.lt i hi) hbel.size, hbk, hgi⟩, trivial, Nat.lt_of_lt_of_le hi hnx, fun _ => hB⟩
    · rw [if_neg e1] at hr
      by_cases e2 : j = q
      · rw [if_pos e2] at hr
        cases hr
        subst e2
        rw [if_pos rfl]
        exact ⟨⟨hgs, rfl, rfl, cur, fz, hgc, k2, k3, k4, k5, k6⟩, trivial, hjn, fun _ => hg⟩
      · rw [if_neg e2] at hr; simp [get] at hr
  · split
    · exact hgs
    · rename_i e1
      rcases hq q hqn with e2 | e2
      · exact absurd e2 e1
      · exact Nat.lt_of_lt_of_le (hm.lt q e2) hbel.size
  · simp only [get_cons] at hp hqq
    by_cases e1 : i = p
    · subst e1
      by_cases e2 : j = q
      · subst e2
        rw [if_pos rfl, if_neg hij]; exact hgi
      · rw [if_neg (fun e => hne e.symm), if_neg e2] at hqq; simp [get] at hqq
    · rw [if_neg e1] at hp
      by_cases e2 : j = p
      · subst e2
        by_cases e3 : i = q
        · subst e3
          rw [if_neg hij, if_pos rfl]; exact fun e => hgi e.symm
        · rw [if_neg e3, if_neg (fun e => hne e.symm)] at hqq; simp [get] at hqq
      · rw [if_neg e2] at hp; simp [get] at hp
  · have : ¬ q = j := by have hqn : q < C.w0.n0 := hqn; omega
    rw [if_neg this]; exact hm.ext q hqn
theorem callX_bld {C : Ctx} {d : Nat} {f : FuncId} {args : List SV} {fr : List (Nat × SV)} {rows : List (Nat × Bool × SRow)} {nx n : Nat} {K : St → Prop} (V : SV) (i j : Nat) {T e : TypeId} {g m cap : Nat} {bs bs' : List Value}
    (he : entersB C.P f = true) (hd : Nat.blt d n = true) (hv : V.ok nx ∧ ment j V = false) (hi : get rows i = some (true, .blob (BldH T g m cap))) (hj : get rows j = some (true, .blob (BldB e g m cap bs))) (hij : i ≠ j) (hn0 : C.w0.n0 ≤ j) (hno : mentF j fr = false) (hl : bs' ≠ [])
    (hc : ∀ β w, Mem C.base C.w0 rows nx β w → Lib.BuilderAtF T e C.base (β i) (.pointer (some ⟨β i, 0, none⟩)) bs w → Calls C.P f (SV.dens β args).toArray w fun e' w' => e' = .returned (V.den β) ∧ Lib.BuilderAtF T e C.base (β i) (.pointer (some ⟨β i, 0, none⟩)) bs' w' ∧ Below C.base w w')
    (h : ∀ g' n' cap', K ⟨(d, V) :: fr, [(i, true, .blob (BldH T g' n' cap')), (j, true, .blob (BldB e g' n' cap' bs'))], nx, n⟩) : CallX C (some d) f args ⟨fr, rows, nx, n⟩ K := by
  unfold CallX
  refine ⟨he, fun β a w hs => ?_⟩
  have hm := hs.mem
  obtain ⟨qi, -, qi3, qi4⟩ := hm.row i _ _ hi
  obtain ⟨qj, -, qj3, qj4⟩ := hm.row j _ _ hj
  refine (hc β w hm (bld_at qi.2 qj.2 (qi4 rfl) (qj4 rfl))).mono ?_
  rintro e' w' ⟨rfl, hb, hbel⟩
  obtain ⟨g', n', cap', β', hβ, hs2⟩ := bld_sat hs hb hl hbel qi3 hij (Nat.le_refl nx) qj3 (fun q hq => .inr hq) hn0 (fun β' hβ s v hv => ment_den hβ v (mentF_get fr hno hv))
  have hs3 := hs2.put (d := d) (by simpa [Nat.blt_eq] using hd) hv.1
  rw [ment_den hβ V hv.2] at hs3
  exact ⟨_, _, _, rfl, h g' n' cap', hs3⟩
/-- the first writing -/
theorem callX_bld0 {C : Ctx} {d : Nat} {f : FuncId} {args : List SV} {fr : List (Nat × SV)} {rows : List (Nat × Bool × SRow)} {nx n : Nat} {K : St → Prop} (V : SV) (i : Nat) {T e : TypeId} {bs' : List Value}
    (he : entersB C.P f = true) (hd : Nat.blt d n = true) (hv : V.ok nx) (hi : get rows i = some (true, .cells T [.any (.pointer none), .any (.slice none 0 0)])) (hl : bs' ≠ [])
    (hc : ∀ β w, Mem C.base C.w0 rows nx β w → Lib.IsBuilderF T e C.base (β i) [] w → Calls C.P f (SV.dens β args).toArray w fun e' w' => e' = .returned (V.den β) ∧ Lib.BuilderAtF T e C.base (β i) (.pointer (some ⟨β i, 0, none⟩)) bs' w' ∧ Below C.base w w')
    (h : ∀ g' n' cap', K ⟨(d, V) :: fr, [(i, true, .blob (BldH T g' n' cap')), (nx, true, .blob (BldB e g' n' cap' bs'))], nx + 1, n⟩) : CallX C (some d) f args ⟨fr, rows, nx, n⟩ K := by
  unfold CallX
  refine ⟨he, fun β a w hs => ?_⟩
  have hm := hs.mem
  obtain ⟨qi, -, qi3, qi4⟩ := hm.row i _ _ hi
  have qi3 : i < nx := qi3
  have q1 : Row w (β i) T (SV.dens β [.any (.pointer none), .any (.slice none 0 0)]).toArray := qi
  refine (hc β w hm (.inl ⟨qi4 rfl, .slice none 0 0, q1, ⟨rfl, .inl ⟨rfl, rfl⟩⟩, by simp [Value.ownBlock]⟩)).mono ?_
  rintro e' w' ⟨rfl, hb, hbel⟩
  obtain ⟨g', n', cap', β', hβ, hs2⟩ := bld_sat (j := nx) hs hb hl hbel qi3 (by omega) (Nat.le_succ nx) (Nat.lt_succ_self nx) (fun q hq => by omega) hm.n0 (fun β' hβ s v hv => SV.den_ext (n := nx) (fun q hq => hβ q (by omega)) v (hs.slot s v hv).2)
  have hs3 := hs2.put (d := d) (by simpa [Nat.blt_eq] using hd) (SV.ok_mono (Nat.le_succ _) V hv)
  rw [SV.den_ext (n := nx) (fun q hq => hβ q (by omega)) V hv] at hs3
  exact ⟨_, _, _, rfl, h g' n' cap', hs3⟩
/-- a call behind which nothing is known of the blocks -/
theorem callX_drop {C : Ctx} {d : Nat} {f : FuncId} {args : List SV} {fr : List (Nat × SV)} {rows : List (Nat × Bool × SRow)} {nx n : Nat} {K : St → Prop} (V : SV)
    (he : entersB C.P f = true) (hd : Nat.blt d n = true) (hv : V.ok nx)
    (hc : ∀ β w, Mem C.base C.w0 rows nx β w → Calls C.P f (SV.dens β args).toArray w fun e' w' => e' = .returned (V.den β) ∧ Below C.base w w')
    (h : K ⟨(d, V) :: fr, [], nx, n⟩) : CallX C (some d) f args ⟨fr, rows, nx, n⟩ K := by
  unfold CallX
  refine ⟨he, fun β a w hs => ?_⟩
  have hm := hs.mem
  refine (hc β w hm).mono ?_
  rintro e' w' ⟨rfl, hbel⟩
  have hs2 : Sat C.base C.w0 ⟨fr, [], nx, n⟩ β a w' := ⟨hs.defers, hs.size, hs.slot, hm.below.trans hbel, Nat.le_trans hm.base_le hbel.size, fun i o r h => by simp [get] at h, fun i hi => Nat.lt_of_lt_of_le (hm.lt i hi) hbel.size, fun i j r o r' h => by simp [get] at h, hm.n0, hm.ext⟩
  exact ⟨_, _, β, rfl, h, hs2.put (by simpa [Nat.blt_eq] using hd) hv⟩
theorem ments_any (j : Nat) : ∀ caps : List Value, ments j (caps.map SV.any) = false
  | [] => rfl
  | v :: r => by simp only [List.map_cons, ments, ment, Bool.false_or]; exact ments_any j r
theorem dens_any (β : Nat → Nat) : ∀ caps : List Value, SV.dens β (caps.map SV.any) = caps
  | [] => rfl
  | v :: r => by simp only [List.map_cons, SV.dens, SV.den, dens_any β r]
theorem oks_any {n : Nat} : ∀ caps : List Value, (∀ v ∈ caps, v.oneCell' = true) → SV.oks n (caps.map SV.any)
  | [], _ => trivial
  | v :: r, h => ⟨h v (by simp), oks_any r (fun u hu => h u (by simp [hu]))⟩
/-- a new beginning: what is known of blocks becomes a fact of the world -/
theorem rebase {P : Program} {E : Env} {base : Nat} {w0 : Base} {fn : Func} {res : List ResultVar} {R : Ending → World → Prop} {sc sb : List Nat} {k : List It} {st : St} (hE : EnvOK P E) (hres : fn.results = res.toArray) (fr' : List (Nat × SV)) (fuel : Nat) (sc' sb' : List Nat)
    (hfr : wkF st.fr 0 fr')
    (h : ∀ β w, Mem base w0 st.rows st.next β w → wpS ⟨P, E, w.heap.size, Base.of w, fn, res, R, sc', sb'⟩ fuel k ⟨fr', [], 0, st.n⟩) : StopN ⟨P, E, base, w0, fn, res, R, sc, sb⟩ k st := by
  unfold StopN
  intro β a w hs
  refine wpS_sound (C := ⟨P, E, w.heap.size, Base.of w, fn, res, R, sc', sb'⟩) hE hres fuel k _ β a w (h β w hs.mem) ⟨hs.defers, hs.size, fun s v hv => ?_, Below.refl _ _, Nat.le_refl _, fun i o r h => by simp [get] at h, fun i (h : i < 0) => by omega, fun i j r o r' h => by simp [get] at h, Nat.le_refl _, fun i (h : i < 0) => by omega⟩
  obtain ⟨u, g1, g2, g3⟩ := wkF_sound hfr hv
  exact ⟨by rw [← eqSV_sound β u v g2]; exact (hs.slot s u g1).1, g3⟩
end Sym
end Go.Proofs.YtmodjglbjempkaaGreatDoor
