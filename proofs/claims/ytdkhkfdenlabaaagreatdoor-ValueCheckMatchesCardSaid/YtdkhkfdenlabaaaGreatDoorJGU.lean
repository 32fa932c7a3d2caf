/- Values, the reference: SameValue of any two values. Values, the program: items copied; arrays made. -/
import Derived.Test.YtdkhkfdenlabaaaGreatDoorJVaW20
set_option linter.unusedSimpArgs false
set_option linter.unusedVariables false
namespace Go.Proofs.YtdkhkfdenlabaaaGreatDoor
open Go.RowKit
open Sym
attribute [local irreducible] Calls Sym.AggEq ExP.nd ExP.dig ExP.upd ExP.writeF ExP.writeE
theorem x_neBV {C : Ctx} {G : Blobs} {x y : Operand} {t u : TypeId} {va vb : SV} (a b c : Bool) (ha : ∀ β, va.den β = .bool a) (hb : ∀ β, vb.den β = .bool b) (hc : (a != b) = c) (ht : C.P.underlying t = some .bool) : ExtN C G (.binOp .neq t x y u) [va, vb] (.bool c) := by
  subst hc
  exact x_neBB a b ha hb ht
set_option maxRecDepth 100000 in
set_option maxHeartbeats 8000000 in
theorem rsame_step (t o : VaP.VT) (a b : Option Addr) (cap cap' : Nat) (w : World) (ps qs : Nat → Option Addr × Nat) (h1 : ItsIn t.items a ps w) (h2 : ItsIn o.items b qs w) (hl : t.items.length ≤ 9223372036854775807)
    (HG : ∀ i x y, t.items[i]? = some x → o.items[i]? = some y → ∀ w', Below w.heap.size w w' → Calls Tryz.prog 10 #[vtV x (ps i).1 (ps i).2, vtV y (qs i).1 (qs i).2] w' fun e w'' => e = .returned (.bool (VaP.same x y)) ∧ Below w'.heap.size w' w'') :
    Calls Tryz.prog 10 #[vtV t a cap, vtV o b cap'] w fun e w' => e = .returned (.bool (VaP.same t o)) ∧ Below w.heap.size w w' := by
  obtain ⟨hS, hN⟩ := VaP.same_cases t o
  have hLen : t.items.length ≠ o.items.length → VaP.same t o = false := fun h => by
    rw [VaP.same_false]
    intro e
    exact h (by rw [e])
  generalize VaP.same t o = S at *
  obtain ⟨k, ⟨n1, n2⟩, tx, on, cd, rw', cl, its⟩ := t
  obtain ⟨k2, ⟨m1, m2⟩, tx2, on2, cd2, rw2, cl2, its2⟩ := o
  unfold vtV at *
  dsimp only at *
  generalize hn : its.length = L1 at *
  generalize hn2 : its2.length = L2 at *
  obtain ⟨fz, hfz⟩ : ∃ fz, (n1 == m1 && n2 == m2) = fz := ⟨_, rfl⟩
  obtain ⟨oz, hoz⟩ : ∃ oz, (on != on2) = oz := ⟨_, rfl⟩
  have hF : (n1 = m1 ∧ n2 = m2) ↔ fz = true := by rw [← hfz]; simp
  have hO : (on = on2) ↔ oz = false := by rw [← hoz]; simp
  have hA : AggEq Tryz.prog 25 [.str n1, .str n2] [.str m1, .str m2] fz := by rw [← hfz]; exact fracAgg n1 n2 m1 m2
  rw [hF, hO] at hS hN
  refine enter env_ok Tryz.func10 rfl Tryz.results10 Tryz.ntmps10 [] [] [.agg [.int .i64 k, .str n1, .str n2, .str tx, .bool on, .int .i64 cd, .int .i64 rw', .int .i64 cl, .any (.slice a L1 cap)], .agg [.int .i64 k2, .str m1, .str m2, .str tx2, .bool on2, .int .i64 cd2, .int .i64 rw2, .int .i64 cl2, .any (.slice b L2 cap')]] ⟨⟨trivial, trivial, trivial, trivial, trivial, trivial, trivial, trivial, rfl, trivial⟩, ⟨trivial, trivial, trivial, trivial, trivial, trivial, trivial, trivial, rfl, trivial⟩, trivial⟩ (Nat.le_of_ble_eq_true rfl) w _ 1000 ?_
  repeat' (first | ((with_reducible first | show wpS .. | show putD .. | show putW .. | show splitG .. | show wpQ .. | show wpD .. | show wpX .. | show expX .. | show stepX .. | show keepR .. | show wpY ..); conv => whnf) | ((with_reducible show RetN ..); refine retB fun β => ?_) | ((with_reducible show _ ∧ _); first | (refine ⟨fun h => absurd h (by first | omega | decide), fun _ => ?_⟩) | (refine ⟨fun _ => ?_, fun h => absurd h (by first | omega | decide)⟩) | (refine ⟨fun _ => ?_, fun _ => ?_⟩) | (apply And.intro; · kernel_rfl) | (apply And.intro; · (show inK _ _; unfold inK; omega)) | (apply And.intro; · (show (_ : Int) ≤ 9223372036854775807; (try simp only [lenS]); omega))) | ((with_reducible show AllBe ..); refine allBe fun βe => ?_; conv => whnf) | ((with_reducible show bothX ..); refine bothI ?_ ?_; conv => whnf) | (with_reducible exact trivial) | ((with_reducible show CallN ..); refine call_of env_ok rfl 1000 ?_) | ((with_reducible show XopN ..); refine xop_of env_ok rfl 1000 ?_) | ((with_reducible show CallX ..); first | fail) | ((with_reducible show OpX ..); first | fail) | ((with_reducible show ∃ _ : SV, _); first | (refine ⟨.bool oz, ?ok, x_neBV on on2 oz (fun _ => rfl) (fun _ => rfl) hoz Tryz.underlying4, ?_⟩; (case ok => exact fun _ _ => trivial)) | (refine ⟨_, ?ok, x_len Tryz.underlying26, ?_⟩; (case ok => exact fun _ _ => trivial))) | ((with_reducible show ∃ _, _); first | (refine ⟨fz, hA, ?_⟩) | fail))
  all_goals first | (rw [hLen (by omega)]; rfl) | (rw [hN (fun h => by simp_all)]; rfl) | (exfalso; simp_all; done) | skip
  have hS' : S = VaP.sameL its its2 := hS ⟨by omega, by simpa using (by assumption : (!fz) = false), Decidable.not_not.1 (by assumption), by assumption, by omega, by omega, by omega⟩
  have hL : L1 = L2 := by omega
  clear hS hN hA hfz hoz hF hO hLen
  subst hL
  rename_i z1 z2 z3 z4 z5 z6 z7 z8
  clear z1 z2 z3 z4 z5 z6 z7 z8
  refine loop env_ok rfl (T := {i : Nat // i ≤ L1 ∧ its.take i = its2.take i}) (fun t => ⟨[(2, .ptr 0 0), (3, .ptr 1 0), (64, .int .i64 (L1 : Nat)), (65, .int .i64 (t.1 : Nat))], [(0, true, .cells 28 [.int .i64 k, .str n1, .str n2, .str tx, .bool on, .int .i64 cd, .int .i64 rw', .int .i64 cl, .any (.slice a L1 cap)]), (1, true, .cells 28 [.int .i64 k2, .str m1, .str m2, .str tx2, .bool on2, .int .i64 cd2, .int .i64 rw2, .int .i64 cl2, .any (.slice b L1 cap')])], 2, 81⟩) (fun t => L1 - t.1) ⟨0, Nat.zero_le _, by simp⟩ 1000 [] [200006] (fun _ => Nat.zero_le _) (by ((with_reducible show wk _ _); repeat' (first | exact trivial | exact eqSV_refl _ | (refine eqI ?_) | (refine eqS ?_) | (with_reducible exact rfl) | apply And.intro | exact Nat.zero_lt_one | exact Nat.le_of_ble_eq_true rfl | (with_reducible assumption) | ((show (_ : Int) = _); (try dsimp only); omega) | ((show eqSV _ _); simp [eqSV, isB, bval, *]; done) | rfl))) (fun t I hI => ?_)
  obtain ⟨i, hi, ht⟩ := t
  dsimp only
  by_cases hlt : i < L1
  · obtain ⟨x, hx⟩ : ∃ x, its[i]? = some x := ⟨its[i]'(by omega), List.getElem?_eq_getElem (by omega)⟩
    obtain ⟨y, hy⟩ : ∃ y, its2[i]? = some y := ⟨its2[i]'(by omega), List.getElem?_eq_getElem (by omega)⟩
    obtain ⟨ad, rfl, hld1⟩ := h1.ld hx
    obtain ⟨bd, rfl, hld2⟩ := h2.ld hy
    have C := HG i x y hx hy
    have hF : VaP.same x y = false → S = false := fun h => by
      rw [hS', VaP.sameL_false]
      intro e
      rw [e, hy] at hx
      exact VaP.same_false.1 h (Option.some.inj hx).symm
    have hT : VaP.same x y = true → its.take (i + 1) = its2.take (i + 1) := fun h => by
      obtain rfl := VaP.same_true.1 h
      exact take_more ht hx hy
    clear h1 h2 HG hx hy hS'
    generalize VaP.same x y = Z at *
    generalize (ps i).1 = p1 at *
    generalize (ps i).2 = p2 at *
    generalize (qs i).1 = q1 at *
    generalize (qs i).2 = q2 at *
    obtain ⟨xk, ⟨u1, u2⟩, xt, xo, xc, xr, xl, xi⟩ := x
    obtain ⟨yk, ⟨v1, v2⟩, yt, yo, yc, yr, yl, yi⟩ := y
    dsimp only at *
    generalize xi.length = X1 at *
    generalize yi.length = X2 at *
    repeat' (first | ((with_reducible first | show wpS .. | show putD .. | show putW .. | show splitG .. | show wpQ .. | show wpD .. | show wpX .. | show expX .. | show stepX .. | show keepR .. | show wpY ..); conv => whnf) | ((with_reducible show RetN ..); refine retB fun β => ?_) | ((with_reducible show _ ∧ _); first | (refine ⟨fun h => absurd h (by first | omega | decide), fun _ => ?_⟩) | (refine ⟨fun _ => ?_, fun h => absurd h (by first | omega | decide)⟩) | (refine ⟨fun _ => ?_, fun _ => ?_⟩) | (apply And.intro; · kernel_rfl) | (apply And.intro; · (show inK _ _; unfold inK; omega)) | (apply And.intro; · (show (_ : Int) ≤ 9223372036854775807; (try simp only [lenS]); omega))) | ((with_reducible show AllBe ..); refine allBe fun βe => ?_; conv => whnf) | ((with_reducible show bothX ..); refine bothI ?_ ?_; conv => whnf) | (with_reducible exact trivial) | ((with_reducible show CallN ..); refine call_of env_ok rfl 1000 ?_) | ((with_reducible show XopN ..); refine xop_of env_ok rfl 1000 ?_) | ((with_reducible show CallX ..); first | (refine callX (.bool Z) (by kernel_rfl) rfl (trivial) (fun β w hm => C w hm.below) ?_)) | ((with_reducible show OpX ..); first | fail) | ((with_reducible show ∃ _ : SV, _); first | (refine ⟨_, ?ok, x_index (j := i) rfl Tryz.underlying26 (fun w => Tryz.sizeOf28 w) (by omega), ?_⟩; (case ok => exact fun _ _ => rfl)) | (refine ⟨_, ?ok, x_loadAgg (vs := [.int .i64 xk, .str u1, .str u2, .str xt, .bool xo, .int .i64 xc, .int .i64 xr, .int .i64 xl, .any (.slice p1 X1 p2)]) (fun w => Tryz.isAgg28 w) (fun w => Tryz.sizeOf28 w) hld1, ?_⟩; (case ok => exact fun _ _ => ⟨trivial, trivial, trivial, trivial, trivial, trivial, trivial, trivial, rfl, trivial⟩)) | (refine ⟨_, ?ok, x_loadAgg (vs := [.int .i64 yk, .str v1, .str v2, .str yt, .bool yo, .int .i64 yc, .int .i64 yr, .int .i64 yl, .any (.slice q1 X2 q2)]) (fun w => Tryz.isAgg28 w) (fun w => Tryz.sizeOf28 w) hld2, ?_⟩; (case ok => exact fun _ _ => ⟨trivial, trivial, trivial, trivial, trivial, trivial, trivial, trivial, rfl, trivial⟩)) | (refine ⟨.bool Z, by kernel_rfl, trivial, fun β w hm => C w hm.below, ?_⟩)) | ((with_reducible show ∃ _, _); first | fail))
    all_goals first | (exfalso; omega) | (rw [hF (by simpa using (by assumption : (!Z) = true))]; rfl) | (refine hI _ ⟨i + 1, by omega, hT (by simpa using (by assumption : (!Z) = false))⟩ (by dsimp only; omega) (by ((with_reducible show wk _ _); repeat' (first | exact trivial | exact eqSV_refl _ | (refine eqI ?_) | (refine eqS ?_) | (with_reducible exact rfl) | apply And.intro | exact Nat.zero_lt_one | exact Nat.le_of_ble_eq_true rfl | (with_reducible assumption) | ((show (_ : Int) = _); (try dsimp only); omega) | ((show eqSV _ _); simp [eqSV, isB, bval, *]; done) | rfl))); done) | trace_state
  · have e : i = L1 := by omega
    subst e
    have hDt : S = true := by
      rw [hS', VaP.sameL_true]
      rwa [List.take_of_length_le (by omega), List.take_of_length_le (by omega)] at ht
    repeat' (first | ((with_reducible first | show wpS .. | show putD .. | show putW .. | show splitG .. | show wpQ .. | show wpD .. | show wpX .. | show expX .. | show stepX .. | show keepR .. | show wpY ..); conv => whnf) | ((with_reducible show RetN ..); refine retB fun β => ?_) | ((with_reducible show _ ∧ _); first | (refine ⟨fun h => absurd h (by first | omega | decide), fun _ => ?_⟩) | (refine ⟨fun _ => ?_, fun h => absurd h (by first | omega | decide)⟩) | (refine ⟨fun _ => ?_, fun _ => ?_⟩) | (apply And.intro; · kernel_rfl) | (apply And.intro; · (show inK _ _; unfold inK; omega)) | (apply And.intro; · (show (_ : Int) ≤ 9223372036854775807; (try simp only [lenS]); omega))) | ((with_reducible show AllBe ..); refine allBe fun βe => ?_; conv => whnf) | ((with_reducible show bothX ..); refine bothI ?_ ?_; conv => whnf) | (with_reducible exact trivial) | ((with_reducible show CallN ..); refine call_of env_ok rfl 1000 ?_) | ((with_reducible show XopN ..); refine xop_of env_ok rfl 1000 ?_) | ((with_reducible show CallX ..); first | fail) | ((with_reducible show OpX ..); first | fail) | ((with_reducible show ∃ _ : SV, _); first | fail) | ((with_reducible show ∃ _, _); first | fail))
    all_goals first | (exfalso; omega) | (rw [hDt]; rfl) | trace_state
theorem rsame_upto : ∀ (n : Nat) (t o : VaP.VT), SizeOf.sizeOf t ≤ n → ∀ (a b : Option Addr) (cap cap' : Nat) (w : World), VIn w t a cap → VIn w o b cap' → Calls Tryz.prog 10 #[vtV t a cap, vtV o b cap'] w fun e w' => e = .returned (.bool (VaP.same t o)) ∧ Below w.heap.size w w' := by
  intro n
  induction n with
  | zero =>
    intro t o h
    exfalso
    obtain ⟨k, n, tx, on, cd, r, c, its⟩ := t
    simp only [VaP.VT.mk.sizeOf_spec] at h
    omega
  | succ n ih =>
    intro t o h a b cap cap' w ht ho
    obtain ⟨_, _, _, ps, hf, hc, hn, hi, hs⟩ := ht
    obtain ⟨_, _, _, qs, hf2, hc2, hn2, hi2, hs2⟩ := ho
    refine rsame_step t o a b cap cap' w ps qs hs hs2 hf.it (fun i x y hx hy w'' hb' => ?_)
    have hlt := VaP.item_lt hx
    exact ih x y (by omega) _ _ _ _ w'' ((hi i x hx).lift hb') ((hi2 i y hy).lift hb')
theorem rsame_any (t o : VaP.VT) (a b : Option Addr) (cap cap' : Nat) (w : World) (ht : VIn w t a cap) (ho : VIn w o b cap') : Calls Tryz.prog 10 #[vtV t a cap, vtV o b cap'] w fun e w' => e = .returned (.bool (VaP.same t o)) ∧ Below w.heap.size w w' :=
  rsame_upto _ t o (Nat.le_refl _) a b cap cap' w ht ho
end Go.Proofs.YtdkhkfdenlabaaaGreatDoor
namespace Go.Proofs.YtdkhkfdenlabaaaGreatDoor
open Go.RowKit
open Sym
attribute [local irreducible] Calls Sym.AggEq ExP.nd ExP.dig ExP.upd ExP.writeF ExP.writeE
/-- the cells of items -/
def cellsV (l : List VaP.VT) (ps : Nat → Option Addr × Nat) : List Value := (List.range l.length).flatMap fun i => itCells (l.getD i VaP.emptyV) (ps i)
theorem cellsV_len (l : List VaP.VT) (ps : Nat → Option Addr × Nat) : (cellsV l ps).length = l.length * 9 := by
  unfold cellsV
  rw [flat_len (sz := 9) (fun _ => rfl), List.length_range]
theorem cellsV_at {l : List VaP.VT} (ps : Nat → Option Addr × Nat) {i : Nat} {x : VaP.VT} (h : l[i]? = some x) {j : Nat} (hj : j < 9) : (cellsV l ps)[i * 9 + j]? = (itCells x (ps i))[j]? := by
  unfold cellsV
  have hi := (List.getElem?_eq_some_iff.1 h).1
  rw [flat_at (sz := 9) (fun _ => rfl) (List.range l.length) i j i (by simp [hi]) hj]
  simp [List.getD, h]
theorem cellsV_one (l : List VaP.VT) (ps : Nat → Option Addr × Nat) : ∀ u ∈ cellsV l ps, u.oneCell' = true := by
  intro u hu
  unfold cellsV at hu
  obtain ⟨i, -, hu⟩ := List.mem_flatMap.1 hu
  unfold itCells at hu
  simp only [List.mem_cons, List.not_mem_nil, or_false] at hu
  rcases hu with rfl | rfl | rfl | rfl | rfl | rfl | rfl | rfl | rfl <;> rfl
theorem ItsIn.slAt {l : List VaP.VT} {a : Option Addr} {ps : Nat → Option Addr × Nat} {w : World} (h : ItsIn l a ps w) : SlAt a (cellsV l ps) w := by
  intro q v hq
  have hlt := (List.getElem?_eq_some_iff.1 hq).1
  rw [cellsV_len] at hlt
  have hi : q / 9 < l.length := by omega
  obtain ⟨x, hx⟩ : ∃ x, l[q / 9]? = some x := ⟨l[q / 9]'hi, List.getElem?_eq_getElem hi⟩
  have e : q = q / 9 * 9 + q % 9 := by omega
  obtain ⟨ad, ha, hb, hc⟩ := h _ x hx
  refine ⟨ad, ha, hb, ?_⟩
  rw [e] at hq ⊢
  rw [cellsV_at ps hx (by omega)] at hq
  exact hc _ v hq
theorem ItsIn.of_slAt {l : List VaP.VT} {a : Option Addr} {ps : Nat → Option Addr × Nat} {w : World} (h : SlAt a (cellsV l ps) w) : ItsIn l a ps w := by
  intro i x hx
  have h9 : ∀ j v, (itCells x (ps i))[j]? = some v → j < 9 := fun j v hv => (List.getElem?_eq_some_iff.1 hv).1
  obtain ⟨ad, ha, hb, -⟩ := h (i * 9 + 0) (.int .i64 x.kind) (by rw [cellsV_at ps hx (by omega)]; rfl)
  refine ⟨ad, ha, hb, fun j v hv => ?_⟩
  obtain ⟨ad', ha', -, hc⟩ := h (i * 9 + j) v (by rw [cellsV_at ps hx (h9 j v hv)]; exact hv)
  obtain rfl : ad' = ad := by rw [ha] at ha'; exact (Option.some.inj ha').symm
  exact hc
theorem VIn.parts {w : World} {t : VaP.VT} {a : Option Addr} {cap : Nat} (h : VIn w t a cap) : ∃ ps : Nat → Option Addr × Nat, t.Fit ∧ t.items.length ≤ cap ∧ (a = none → cap = 0) ∧ (∀ i x, t.items[i]? = some x → VIn w x (ps i).1 (ps i).2) ∧ ItsIn t.items a ps w := by
  obtain ⟨_, _, _, ps, hf, hc, hn, hi, hs⟩ := h
  exact ⟨ps, hf, hc, hn, hi, hs⟩
theorem valInfo : (Tryz.prog.info? 28).map (fun i => (i.zero.map fun z => z.cells.size, i.size, decide (i.bytes ≤ 1000))) = some (some 9, 9, true) := by kernel_rfl
theorem val_parts : ∃ i z, Tryz.prog.info? 28 = some i ∧ i.zero = some z ∧ z.cells.size = 9 ∧ i.size = 9 ∧ i.bytes ≤ 1000 := by
  have h := valInfo
  cases hi : Tryz.prog.info? 28 with
  | none => rw [hi] at h; cases h
  | some i =>
    rw [hi] at h
    simp only [Option.map_some, Option.some.injEq, Prod.mk.injEq, Option.map_eq_some_iff, decide_eq_true_eq] at h
    obtain ⟨⟨z, hz, hz9⟩, h9, hb⟩ := h
    exact ⟨i, z, rfl, hz, hz9, h9, hb⟩
theorem retOwnS {base : Nat} {w0 : Base} {rows : List (Nat × Bool × SRow)} {nx : Nat} {β : Nat → Nat} {w : World} (hm : Mem base w0 rows nx β w) (j : Nat) {e : TypeId} {sz g n cap : Nat} {xs : List Value} (hj : get rows j = some (true, .blob (OwnS e sz g n cap xs))) : base ≤ g ∧ g < w.heap.size ∧ OwnS e sz g n cap xs g w.heap[g]? := by
  obtain ⟨h1, -, -, h4⟩ := hm.row j _ _ hj
  have hg : β j = g := h1.2.1
  have h1' := h1.2
  rw [hg] at h1'
  exact ⟨by rw [← hg]; exact h4 rfl, by rw [← hg]; exact h1.1, h1'⟩
set_option maxRecDepth 100000 in
theorem vclone_any (l : List VaP.VT) (ad : Addr) (cap : Nat) (ps : Nat → Option Addr × Nat) (w : World) (h : ItsIn l (some ad) ps w) (hl : l.length ≤ 1000000) :
    Calls Tryz.prog 75 #[.slice (some ad) l.length cap] w fun e w' => Below w.heap.size w w' ∧ ∃ t : {p : Nat × Nat // l.length ≤ p.2}, e = .returned (.slice (some ⟨t.1.1, 0, none⟩) l.length t.1.2) ∧ ∀ q ∈ [((some ⟨t.1.1, 0, none⟩ : Option Addr), cellsV l ps)], SlAt q.1 q.2 w' ∧ FreshX q.1 q.2 w := by
  obtain ⟨i0, z0, hi, hz0, hzs, hz1, hz2⟩ := val_parts
  have hu := Tryz.underlying26
  have hsz := fun w => Tryz.sizeOf28 w
  have hs := h.slAt
  have hlen := cellsV_len l ps
  have h1 := cellsV_one l ps
  clear h
  generalize cellsV l ps = xs at *
  generalize l.length = n at *
  refine enter env_ok Tryz.func75 rfl Tryz.results75 Tryz.ntmps75 [] [] [.any (.slice (some ad) n cap)] ⟨rfl, trivial⟩ (Nat.le_of_ble_eq_true rfl) w _ 1000 ?_
  repeat' (first | ((with_reducible first | show wpS .. | show putD .. | show putW .. | show splitG .. | show wpQ .. | show wpD .. | show wpX .. | show expX .. | show stepX .. | show keepR .. | show wpY ..); conv => whnf) | ((with_reducible show RetN ..); refine retB fun β => ?_) | ((with_reducible show _ ∧ _); first | (refine ⟨fun h => absurd h (by first | omega | decide), fun _ => ?_⟩) | (refine ⟨fun _ => ?_, fun h => absurd h (by first | omega | decide)⟩) | (refine ⟨fun _ => ?_, fun _ => ?_⟩) | (apply And.intro; · kernel_rfl) | (apply And.intro; · (show inK _ _; unfold inK; omega)) | (apply And.intro; · (show (_ : Int) ≤ 9223372036854775807; (try simp only [lenS]); omega))) | ((with_reducible show AllBe ..); refine allBe fun βe => ?_; conv => whnf) | ((with_reducible show bothX ..); refine bothI ?_ ?_; conv => whnf) | (with_reducible exact trivial) | ((with_reducible show CallN ..); refine call_of env_ok rfl 1000 ?_) | ((with_reducible show XopN ..); refine xop_of env_ok rfl 1000 ?_) | ((with_reducible show CallX ..); first | fail) | ((with_reducible show OpX ..); first | (refine opx_build0 rfl hu hsz (fun g => ?_)) | (refine opx_appendW (sz := 9) 0 (ys := xs) rfl hu hi hz0 hz1 hzs (by omega) rfl rfl rfl (fun h => by cases h) hlen (fun β w' hm => hs.below hm.below) (by unfold maxLen; omega) (Nat.le_trans (Nat.mul_le_mul_left _ hz2) (by omega)) h1 (by kernel_rfl) (Nat.zero_le _) (fun g2 cap2 => ?_))) | ((with_reducible show ∃ _ : SV, _); first | (refine ⟨_, ?ok, x_eqNil hu, ?_⟩; (case ok => exact fun _ _ => trivial))) | ((with_reducible show ∃ _, _); first | fail))
  · rename_i h; cases h
  · refine ret fun β w' hm => ?_
    obtain ⟨q1, q2, q3⟩ := retOwnS hm 0 rfl
    simp only [Nat.zero_add, List.nil_append] at q3
    have hcap : n ≤ cap2 := by obtain ⟨-, _, -, h, -⟩ := q3; exact h
    exact ⟨hm.below, ⟨(g2, cap2), hcap⟩, by simp [SV.den], fun q hq => by
      obtain rfl := List.mem_singleton.1 hq
      exact ⟨q3.slAt q2, fun _ ad h => by cases h; exact q1⟩⟩
/-- an array of the value's rows, columns and items -/
def VaP.arrT (t : VaP.VT) : VaP.VT := ⟨5, ([], []), [], false, 0, t.rows, t.cols, t.items⟩
theorem VIn.arr {w : World} {t : VaP.VT} {a : Option Addr} {cap : Nat} (h : VIn w t a cap) : VIn w (VaP.arrT t) a cap := by
  obtain ⟨_, _, _, ps, hf, hc, hn, hi, hs⟩ := h
  exact .mk _ _ _ ps ⟨by simp [VaP.arrT], by simp [VaP.arrT], by simp [VaP.arrT], hf.it⟩ hc hn hi hs
/-- the array of copied items -/
theorem VIn.copied {w w' : World} {t : VaP.VT} {a : Option Addr} {cap : Nat} (h : VIn w t a cap) (hb : Below w.heap.size w w') {ps : Nat → Option Addr × Nat} (hi : ∀ i x, t.items[i]? = some x → VIn w x (ps i).1 (ps i).2) {g cap' : Nat} (hs : SlAt (some ⟨g, 0, none⟩) (cellsV t.items ps) w') (hc : t.items.length ≤ cap') : VIn w' (VaP.arrT t) (some ⟨g, 0, none⟩) cap' :=
  .mk _ _ _ ps ⟨by simp [VaP.arrT], by simp [VaP.arrT], by simp [VaP.arrT], h.fit.it⟩ hc (fun h => by cases h) (fun i x hx => (hi i x hx).lift hb) (ItsIn.of_slAt hs)
theorem VaP.arr_len {t : VaP.VT} (h : VaP.vErr (VaP.arrT t) = 0) : 0 < t.items.length ∧ t.items.length ≤ 100000 := by
  unfold VaP.vErr at h
  split at h
  · rename_i h'; exact absurd h (h'.resolve_right (fun h => h rfl))
  · split at h
    · omega
    · split at h
      · omega
      · split at h
        · omega
        · rename_i h1 h2 h3
          unfold VaP.arrT at h1 h2 h3
          dsimp only at h1 h2 h3
          have h4 : 1 * 1 ≤ t.rows * t.cols := Int.mul_le_mul (by omega) (by omega) (by omega) (by omega)
          omega
set_option maxRecDepth 100000 in
set_option maxHeartbeats 4000000 in
theorem varray_bad (t : VaP.VT) (a : Option Addr) (cap : Nat) (w : World) (hw : XV w) (ht : VIn w t a cap) (h : VaP.vErr (VaP.arrT t) ≠ 0) : Calls Tryz.prog 16 #[.int .i64 t.rows, .int .i64 t.cols, .slice a t.items.length cap] w fun e w' => e = .returned (.tuple #[vtV VaP.emptyV none 0, .int .i64 (VaP.vErr (VaP.arrT t))]) ∧ Below w.heap.size w w' := by
  have C := fun (w' : World) (hb : Below w.heap.size w w') => vcheck_any (VaP.arrT t) a cap w' (hw.below hb) (ht.arr.lift hb)
  generalize VaP.vErr (VaP.arrT t) = F at *
  clear ht
  obtain ⟨k, nn, tx, on, cd, R, L, its⟩ := t
  unfold VaP.arrT at C
  unfold vtV at *
  dsimp only at *
  generalize its.length = n at *
  refine enter env_ok Tryz.func16 rfl Tryz.results16 Tryz.ntmps16 [] [] [.int .i64 R, .int .i64 L, .any (.slice a n cap)] ⟨trivial, trivial, rfl, trivial⟩ (Nat.le_of_ble_eq_true rfl) w _ 1000 ?_
  repeat' (first | ((with_reducible first | show wpS .. | show putD .. | show putW .. | show splitG .. | show wpQ .. | show wpD .. | show wpX .. | show expX .. | show stepX .. | show keepR .. | show wpY ..); conv => whnf) | ((with_reducible show RetN ..); refine retB fun β => ?_) | ((with_reducible show _ ∧ _); first | (refine ⟨fun h => absurd h (by first | omega | decide), fun _ => ?_⟩) | (refine ⟨fun _ => ?_, fun h => absurd h (by first | omega | decide)⟩) | (refine ⟨fun _ => ?_, fun _ => ?_⟩) | (apply And.intro; · kernel_rfl) | (apply And.intro; · (show inK _ _; unfold inK; omega)) | (apply And.intro; · (show (_ : Int) ≤ 9223372036854775807; (try simp only [lenS]); omega))) | ((with_reducible show AllBe ..); refine allBe fun βe => ?_; conv => whnf) | ((with_reducible show bothX ..); refine bothI ?_ ?_; conv => whnf) | (with_reducible exact trivial) | ((with_reducible show CallN ..); refine call_of env_ok rfl 1000 ?_) | ((with_reducible show XopN ..); refine xop_of env_ok rfl 1000 ?_) | ((with_reducible show CallX ..); first | (refine callX (.int .i64 F) (by kernel_rfl) rfl (trivial) (fun β w hm => C w hm.below) ?_)) | ((with_reducible show OpX ..); first | fail) | ((with_reducible show ∃ _ : SV, _); first | fail) | ((with_reducible show ∃ _, _); first | fail))
  all_goals first | (exfalso; omega) | rfl | trace_state
set_option maxRecDepth 100000 in
set_option maxHeartbeats 4000000 in
theorem varray_ok (t : VaP.VT) (ad : Addr) (cap : Nat) (ps : Nat → Option Addr × Nat) (w : World) (hw : XV w) (ht : VIn w t (some ad) cap) (hs : ItsIn t.items (some ad) ps w) (h : VaP.vErr (VaP.arrT t) = 0) : Calls Tryz.prog 16 #[.int .i64 t.rows, .int .i64 t.cols, .slice (some ad) t.items.length cap] w fun e w' => Below w.heap.size w w' ∧ ∃ p : {p : Nat × Nat // t.items.length ≤ p.2}, e = .returned (.tuple #[vtV (VaP.arrT t) (some ⟨p.1.1, 0, none⟩) p.1.2, .int .i64 0]) ∧ ∀ q ∈ [((some ⟨p.1.1, 0, none⟩ : Option Addr), cellsV t.items ps)], SlAt q.1 q.2 w' ∧ FreshX q.1 q.2 w := by
  have hw0 := hw.pos
  have hl := (VaP.arr_len h).2
  have C := fun (w' : World) (hb : Below w.heap.size w w') => vcheck_any (VaP.arrT t) (some ad) cap w' (hw.below hb) (ht.arr.lift hb)
  rw [h] at C
  have K := fun (w' : World) (hb : Below w.heap.size w w') => vclone_any t.items ad cap ps w' (fun i x hx => by
    obtain ⟨ad', e, h1, h2⟩ := hs i x hx
    exact ⟨ad', e, Nat.lt_of_lt_of_le h1 hb.size, fun j v hv => cell_below (h2 j v hv) hb⟩) (Nat.le_trans hl (by omega))
  clear ht hs h
  obtain ⟨k, nn, tx, on, cd, R, L, its⟩ := t
  unfold VaP.arrT at *
  unfold vtV at *
  dsimp only at *
  generalize cellsV its ps = xs at *
  generalize its.length = n at *
  refine enter env_ok Tryz.func16 rfl Tryz.results16 Tryz.ntmps16 [] [] [.int .i64 R, .int .i64 L, .any (.slice (some ad) n cap)] ⟨trivial, trivial, rfl, trivial⟩ (Nat.le_of_ble_eq_true rfl) w _ 1000 ?_
  repeat' (first | ((with_reducible first | show wpS .. | show putD .. | show putW .. | show splitG .. | show wpQ .. | show wpD .. | show wpX .. | show expX .. | show stepX .. | show keepR .. | show wpY ..); conv => whnf) | ((with_reducible show RetN ..); refine retB fun β => ?_) | ((with_reducible show _ ∧ _); first | (refine ⟨fun h => absurd h (by first | omega | decide), fun _ => ?_⟩) | (refine ⟨fun _ => ?_, fun h => absurd h (by first | omega | decide)⟩) | (refine ⟨fun _ => ?_, fun _ => ?_⟩) | (apply And.intro; · kernel_rfl) | (apply And.intro; · (show inK _ _; unfold inK; omega)) | (apply And.intro; · (show (_ : Int) ≤ 9223372036854775807; (try simp only [lenS]); omega))) | ((with_reducible show AllBe ..); refine allBe fun βe => ?_; conv => whnf) | ((with_reducible show bothX ..); refine bothI ?_ ?_; conv => whnf) | (with_reducible exact trivial) | ((with_reducible show CallN ..); refine call_of env_ok rfl 1000 ?_) | ((with_reducible show XopN ..); refine xop_of env_ok rfl 1000 ?_) | ((with_reducible show CallX ..); first | (refine callX (.int .i64 0) (by kernel_rfl) rfl (trivial) (fun β w hm => C w hm.below) ?_) | (refine callSls (T := {p : Nat × Nat // n ≤ p.2}) (fun t => .any (.slice (some ⟨t.1.1, 0, none⟩) n t.1.2)) (fun t => [(some ⟨t.1.1, 0, none⟩, xs)]) hw0 (by kernel_rfl) rfl (fun _ => rfl) (fun β w' hm => K w' hm.below) (fun p _ => ?_))) | ((with_reducible show OpX ..); first | fail) | ((with_reducible show ∃ _ : SV, _); first | fail) | ((with_reducible show ∃ _, _); first | fail))
  all_goals first | (exfalso; omega) | (refine ret fun β w' hm => ⟨hm.below, p, rfl, fun q hq => ?_⟩; obtain rfl := List.mem_singleton.1 hq; first | exact ⟨hm.slF 1 rfl, fun hx => hm.freshF 1 rfl rfl hx⟩ | exact ⟨hm.slF 2 rfl, fun hx => hm.freshF 2 rfl rfl hx⟩) | trace_state
end Go.Proofs.YtdkhkfdenlabaaaGreatDoor
