/- Values, the program: Same of any two values. -/
import Derived.Test.YtdkhkfdenlabaaaGreatDoorJVaW10
set_option linter.unusedSimpArgs false
set_option linter.unusedVariables false
namespace Go.Proofs.YtdkhkfdenlabaaaGreatDoor
open Go.RowKit
open Sym
attribute [local irreducible] Calls Sym.AggEq ExP.nd ExP.dig ExP.upd ExP.writeF ExP.writeE
/-- two values are the same -/
noncomputable def VaP.same (t o : VaP.VT) : Bool := @decide (t = o) (Classical.propDecidable _)
noncomputable def VaP.sameL (l m : List VaP.VT) : Bool := @decide (l = m) (Classical.propDecidable _)
theorem VaP.same_true {t o : VaP.VT} : VaP.same t o = true ↔ t = o := by unfold VaP.same; simp
theorem VaP.same_false {t o : VaP.VT} : VaP.same t o = false ↔ t ≠ o := by unfold VaP.same; simp
theorem VaP.sameL_true {t o : List VaP.VT} : VaP.sameL t o = true ↔ t = o := by unfold VaP.sameL; simp
theorem VaP.sameL_false {t o : List VaP.VT} : VaP.sameL t o = false ↔ t ≠ o := by unfold VaP.sameL; simp
/-- items as they lie in memory -/
def ItsIn (l : List VaP.VT) (a : Option Addr) (ps : Nat → Option Addr × Nat) (w : World) : Prop := ∀ i x, l[i]? = some x → ∃ ad, a = some ad ∧ ad.block < w.heap.size ∧ ∀ j v, (itCells x (ps i))[j]? = some v → w.cell? (ad.add (i * 9 + j)) = some v
theorem ItsIn.ld {l : List VaP.VT} {a : Option Addr} {ps : Nat → Option Addr × Nat} {w : World} (h : ItsIn l a ps w) {i : Nat} {x : VaP.VT} (hx : l[i]? = some x) : ∃ ad, a = some ad ∧ ∀ w', Below w.heap.size w w' → ∀ (β : Nat → Nat) (j : Nat) (v : Value), (SV.dens β [.int .i64 x.kind, .str x.num.1, .str x.num.2, .str x.text, .bool x.on, .int .i64 x.code, .int .i64 x.rows, .int .i64 x.cols, .any (.slice (ps i).1 x.items.length (ps i).2)])[j]? = some v → w'.cell? ((ad.add (i * 9)).add j) = some v := by
  obtain ⟨ad, e, -, hc⟩ := h i x hx
  exact ⟨ad, e, fun w' hb β j v hv => by
    rw [Go.Deep.add_add]
    exact cell_below (hc j v hv) hb⟩
theorem take_more {α : Type} {l m : List α} {i : Nat} {x : α} (h : l.take i = m.take i) (hx : l[i]? = some x) (hy : m[i]? = some x) : l.take (i + 1) = m.take (i + 1) := by
  obtain ⟨h1, e1⟩ := List.getElem?_eq_some_iff.1 hx
  obtain ⟨h2, e2⟩ := List.getElem?_eq_some_iff.1 hy
  rw [List.take_succ_eq_append_getElem h1, List.take_succ_eq_append_getElem h2, e1, e2, h]
set_option maxRecDepth 100000 in
set_option maxHeartbeats 8000000 in
theorem eqf_any (l m : List VaP.VT) (a b : Option Addr) (cap cap' : Nat) (ps qs : Nat → Option Addr × Nat) (w : World) (h1 : ItsIn l a ps w) (h2 : ItsIn m b qs w) (hl : l.length ≤ 9223372036854775807)
    (HG : ∀ i x y, l[i]? = some x → m[i]? = some y → ∀ w', Below w.heap.size w w' → Calls Tryz.prog 15 #[vtV x (ps i).1 (ps i).2, vtV y (qs i).1 (qs i).2] w' fun e w'' => e = .returned (.bool (VaP.same x y)) ∧ Below w'.heap.size w' w'') :
    Calls Tryz.prog 74 #[.slice a l.length cap, .slice b m.length cap', .func (.func 15) #[] #[]] w fun e w' => e = .returned (.bool (VaP.sameL l m)) ∧ Below w.heap.size w w' := by
  generalize hn : l.length = n at *
  generalize hn' : m.length = n' at *
  generalize hD : VaP.sameL l m = D at *
  by_cases hnn : n = n'
  · subst hnn
    refine enter env_ok Tryz.func74 rfl Tryz.results74 Tryz.ntmps74 [] [] [.any (.slice a n cap), .any (.slice b n cap'), .fn 15 []] ⟨rfl, rfl, trivial, trivial⟩ (Nat.le_of_ble_eq_true rfl) w _ 1000 ?_
    repeat' (first | ((with_reducible first | show wpS .. | show putD .. | show putW .. | show splitG .. | show wpQ .. | show wpD .. | show wpX .. | show expX .. | show stepX .. | show keepR .. | show wpY ..); conv => whnf) | ((with_reducible show RetN ..); refine retB fun β => ?_) | ((with_reducible show _ ∧ _); first | (refine ⟨fun h => absurd h (by first | omega | decide), fun _ => ?_⟩) | (refine ⟨fun _ => ?_, fun h => absurd h (by first | omega | decide)⟩) | (refine ⟨fun _ => ?_, fun _ => ?_⟩) | (apply And.intro; · kernel_rfl) | (apply And.intro; · (show inK _ _; unfold inK; omega)) | (apply And.intro; · (show (_ : Int) ≤ 9223372036854775807; (try simp only [lenS]); omega))) | ((with_reducible show AllBe ..); refine allBe fun βe => ?_; conv => whnf) | ((with_reducible show bothX ..); refine bothI ?_ ?_; conv => whnf) | (with_reducible exact trivial) | ((with_reducible show CallN ..); refine call_of env_ok rfl 1000 ?_) | ((with_reducible show XopN ..); refine xop_of env_ok rfl 1000 ?_) | ((with_reducible show CallX ..); first | fail) | ((with_reducible show OpX ..); first | fail) | ((with_reducible show ∃ _ : SV, _); first | (refine ⟨_, ?ok, x_len Tryz.underlying26, ?_⟩; (case ok => exact fun _ _ => trivial))) | ((with_reducible show ∃ _, _); first | fail))
    refine loop env_ok rfl (T := {i : Nat // i ≤ n ∧ l.take i = m.take i}) (fun t => ⟨[(0, .any (.slice a n cap)), (1, .any (.slice b n cap')), (2, .fn 15 []), (15, .any (.slice a n cap)), (16, .int .i64 (n : Nat)), (17, .int .i64 (t.1 : Nat))], [], 0, 32⟩) (fun t => n - t.1) ⟨0, Nat.zero_le _, by simp⟩ 1000 [] [] (fun _ => Nat.zero_le _) (by ((with_reducible show wk _ _); repeat' (first | exact trivial | exact eqSV_refl _ | (refine eqI ?_) | (refine eqS ?_) | (with_reducible exact rfl) | apply And.intro | exact Nat.zero_lt_one | exact Nat.le_of_ble_eq_true rfl | (with_reducible assumption) | ((show (_ : Int) = _); (try dsimp only); omega) | ((show eqSV _ _); simp [eqSV, isB, bval, *]; done) | rfl))) (fun t I hI => ?_)
    obtain ⟨i, hi, ht⟩ := t
    dsimp only
    by_cases hlt : i < n
    · obtain ⟨x, hx⟩ : ∃ x, l[i]? = some x := ⟨l[i]'(by omega), List.getElem?_eq_getElem (by omega)⟩
      obtain ⟨y, hy⟩ : ∃ y, m[i]? = some y := ⟨m[i]'(by omega), List.getElem?_eq_getElem (by omega)⟩
      obtain ⟨ad, rfl, hld1⟩ := h1.ld hx
      obtain ⟨bd, rfl, hld2⟩ := h2.ld hy
      have C := HG i x y hx hy
      have hF : VaP.same x y = false → D = false := fun h => by
        rw [← hD, VaP.sameL_false]
        intro e
        rw [e, hy] at hx
        exact VaP.same_false.1 h (Option.some.inj hx).symm
      have hT : VaP.same x y = true → l.take (i + 1) = m.take (i + 1) := fun h => by
        obtain rfl := VaP.same_true.1 h
        exact take_more ht hx hy
      unfold vtV at C
      clear h1 h2 HG hx hy
      generalize VaP.same x y = S at *
      generalize (ps i).1 = p1 at *
      generalize (ps i).2 = p2 at *
      generalize (qs i).1 = q1 at *
      generalize (qs i).2 = q2 at *
      obtain ⟨xk, ⟨m1, m2⟩, xt, xo, xc, xr, xl, xi⟩ := x
      obtain ⟨yk, ⟨n1, n2⟩, yt, yo, yc, yr, yl, yi⟩ := y
      dsimp only at *
      generalize xi.length = L1 at *
      generalize yi.length = L2 at *
      repeat' (first | ((with_reducible first | show wpS .. | show putD .. | show putW .. | show splitG .. | show wpQ .. | show wpD .. | show wpX .. | show expX .. | show stepX .. | show keepR .. | show wpY ..); conv => whnf) | ((with_reducible show RetN ..); refine retB fun β => ?_) | ((with_reducible show _ ∧ _); first | (refine ⟨fun h => absurd h (by first | omega | decide), fun _ => ?_⟩) | (refine ⟨fun _ => ?_, fun h => absurd h (by first | omega | decide)⟩) | (refine ⟨fun _ => ?_, fun _ => ?_⟩) | (apply And.intro; · kernel_rfl) | (apply And.intro; · (show inK _ _; unfold inK; omega)) | (apply And.intro; · (show (_ : Int) ≤ 9223372036854775807; (try simp only [lenS]); omega))) | ((with_reducible show AllBe ..); refine allBe fun βe => ?_; conv => whnf) | ((with_reducible show bothX ..); refine bothI ?_ ?_; conv => whnf) | (with_reducible exact trivial) | ((with_reducible show CallN ..); refine call_of env_ok rfl 1000 ?_) | ((with_reducible show XopN ..); refine xop_of env_ok rfl 1000 ?_) | ((with_reducible show CallX ..); first | (refine callX (.bool S) (by kernel_rfl) rfl (trivial) (fun β w hm => C w hm.below) ?_)) | ((with_reducible show OpX ..); first | fail) | ((with_reducible show ∃ _ : SV, _); first | (refine ⟨_, ?ok, x_index (j := i) rfl Tryz.underlying26 (fun w => Tryz.sizeOf28 w) (by omega), ?_⟩; (case ok => exact fun _ _ => rfl)) | (refine ⟨_, ?ok, x_loadAgg (vs := [.int .i64 xk, .str m1, .str m2, .str xt, .bool xo, .int .i64 xc, .int .i64 xr, .int .i64 xl, .any (.slice p1 L1 p2)]) (fun w => Tryz.isAgg28 w) (fun w => Tryz.sizeOf28 w) hld1, ?_⟩; (case ok => exact fun _ _ => ⟨trivial, trivial, trivial, trivial, trivial, trivial, trivial, trivial, rfl, trivial⟩)) | (refine ⟨_, ?ok, x_loadAgg (vs := [.int .i64 yk, .str n1, .str n2, .str yt, .bool yo, .int .i64 yc, .int .i64 yr, .int .i64 yl, .any (.slice q1 L2 q2)]) (fun w => Tryz.isAgg28 w) (fun w => Tryz.sizeOf28 w) hld2, ?_⟩; (case ok => exact fun _ _ => ⟨trivial, trivial, trivial, trivial, trivial, trivial, trivial, trivial, rfl, trivial⟩))) | ((with_reducible show ∃ _, _); first | fail))
      all_goals first | (exfalso; omega) | (rw [hF (by simpa using (by assumption : (!S) = true))]; rfl) | (refine hI _ ⟨i + 1, by omega, hT (by simpa using (by assumption : (!S) = false))⟩ (by dsimp only; omega) (by ((with_reducible show wk _ _); repeat' (first | exact trivial | exact eqSV_refl _ | (refine eqI ?_) | (refine eqS ?_) | (with_reducible exact rfl) | apply And.intro | exact Nat.zero_lt_one | exact Nat.le_of_ble_eq_true rfl | (with_reducible assumption) | ((show (_ : Int) = _); (try dsimp only); omega) | ((show eqSV _ _); simp [eqSV, isB, bval, *]; done) | rfl))); done) | trace_state
    · have e : i = n := by omega
      subst e
      have hDt : D = true := by
        rw [← hD, VaP.sameL_true]
        rwa [List.take_of_length_le (by omega), List.take_of_length_le (by omega)] at ht
      repeat' (first | ((with_reducible first | show wpS .. | show putD .. | show putW .. | show splitG .. | show wpQ .. | show wpD .. | show wpX .. | show expX .. | show stepX .. | show keepR .. | show wpY ..); conv => whnf) | ((with_reducible show RetN ..); refine retB fun β => ?_) | ((with_reducible show _ ∧ _); first | (refine ⟨fun h => absurd h (by first | omega | decide), fun _ => ?_⟩) | (refine ⟨fun _ => ?_, fun h => absurd h (by first | omega | decide)⟩) | (refine ⟨fun _ => ?_, fun _ => ?_⟩) | (apply And.intro; · kernel_rfl) | (apply And.intro; · (show inK _ _; unfold inK; omega)) | (apply And.intro; · (show (_ : Int) ≤ 9223372036854775807; (try simp only [lenS]); omega))) | ((with_reducible show AllBe ..); refine allBe fun βe => ?_; conv => whnf) | ((with_reducible show bothX ..); refine bothI ?_ ?_; conv => whnf) | (with_reducible exact trivial) | ((with_reducible show CallN ..); refine call_of env_ok rfl 1000 ?_) | ((with_reducible show XopN ..); refine xop_of env_ok rfl 1000 ?_) | ((with_reducible show CallX ..); first | fail) | ((with_reducible show OpX ..); first | fail) | ((with_reducible show ∃ _ : SV, _); first | fail) | ((with_reducible show ∃ _, _); first | fail))
      all_goals first | (exfalso; omega) | (rw [hDt]; rfl) | trace_state
  · have hDf : D = false := by
      rw [← hD, VaP.sameL_false]
      intro e
      exact hnn (by rw [← hn, ← hn', e])
    refine enter env_ok Tryz.func74 rfl Tryz.results74 Tryz.ntmps74 [] [] [.any (.slice a n cap), .any (.slice b n' cap'), .fn 15 []] ⟨rfl, rfl, trivial, trivial⟩ (Nat.le_of_ble_eq_true rfl) w _ 1000 ?_
    repeat' (first | ((with_reducible first | show wpS .. | show putD .. | show putW .. | show splitG .. | show wpQ .. | show wpD .. | show wpX .. | show expX .. | show stepX .. | show keepR .. | show wpY ..); conv => whnf) | ((with_reducible show RetN ..); refine retB fun β => ?_) | ((with_reducible show _ ∧ _); first | (refine ⟨fun h => absurd h (by first | omega | decide), fun _ => ?_⟩) | (refine ⟨fun _ => ?_, fun h => absurd h (by first | omega | decide)⟩) | (refine ⟨fun _ => ?_, fun _ => ?_⟩) | (apply And.intro; · kernel_rfl) | (apply And.intro; · (show inK _ _; unfold inK; omega)) | (apply And.intro; · (show (_ : Int) ≤ 9223372036854775807; (try simp only [lenS]); omega))) | ((with_reducible show AllBe ..); refine allBe fun βe => ?_; conv => whnf) | ((with_reducible show bothX ..); refine bothI ?_ ?_; conv => whnf) | (with_reducible exact trivial) | ((with_reducible show CallN ..); refine call_of env_ok rfl 1000 ?_) | ((with_reducible show XopN ..); refine xop_of env_ok rfl 1000 ?_) | ((with_reducible show CallX ..); first | fail) | ((with_reducible show OpX ..); first | fail) | ((with_reducible show ∃ _ : SV, _); first | (refine ⟨_, ?ok, x_len Tryz.underlying26, ?_⟩; (case ok => exact fun _ _ => trivial))) | ((with_reducible show ∃ _, _); first | fail))
    all_goals first | (exfalso; omega) | (rw [hDf]; rfl) | trace_state
theorem x_eqBV {C : Ctx} {G : Blobs} {x y : Operand} {t u : TypeId} {va vb : SV} (a b c : Bool) (ha : ∀ β, va.den β = .bool a) (hb : ∀ β, vb.den β = .bool b) (hc : (a == b) = c) (ht : C.P.underlying t = some .bool) : ExtN C G (.binOp .eql t x y u) [va, vb] (.bool c) := by
  have h := x_eqBB (C := C) (G := G) (x := x) (y := y) (t := t) (u := u) (va := va) (vb := vb) a b c ha hb hc ht
  unfold ExtN at h ⊢
  exact h
theorem VaP.item_lt {t x : VaP.VT} {i : Nat} (h : t.items[i]? = some x) : SizeOf.sizeOf x < SizeOf.sizeOf t := by
  obtain ⟨k, n, tx, on, cd, r, c, its⟩ := t
  have h1 := List.sizeOf_lt_of_mem (List.mem_of_getElem? h)
  simp only [VaP.VT.mk.sizeOf_spec]
  dsimp only at h1
  omega
theorem VaP.same_cases (t o : VaP.VT) : (t.kind = o.kind ∧ (t.num.1 = o.num.1 ∧ t.num.2 = o.num.2) ∧ t.text = o.text ∧ t.on = o.on ∧ t.code = o.code ∧ t.rows = o.rows ∧ t.cols = o.cols → VaP.same t o = VaP.sameL t.items o.items) ∧ (¬ (t.kind = o.kind ∧ (t.num.1 = o.num.1 ∧ t.num.2 = o.num.2) ∧ t.text = o.text ∧ t.on = o.on ∧ t.code = o.code ∧ t.rows = o.rows ∧ t.cols = o.cols) → VaP.same t o = false) := by
  constructor
  · rintro ⟨h1, ⟨h2, h2'⟩, h3, h4, h5, h6, h7⟩
    rw [Bool.eq_iff_iff, VaP.same_true, VaP.sameL_true]
    obtain ⟨k, ⟨n1, n2⟩, tx, on, cd, r, c, its⟩ := t
    obtain ⟨k', ⟨n1', n2'⟩, tx', on', cd', r', c', its'⟩ := o
    dsimp only at *
    subst h1 h2 h2' h3 h4 h5 h6 h7
    constructor
    · intro h; cases h; rfl
    · intro h; rw [h]
  · intro h
    rw [VaP.same_false]
    rintro rfl
    exact h ⟨rfl, ⟨rfl, rfl⟩, rfl, rfl, rfl, rfl, rfl⟩
set_option maxRecDepth 100000 in
set_option maxHeartbeats 8000000 in
theorem same_step (t o : VaP.VT) (a b : Option Addr) (cap cap' : Nat) (w : World) (E : Bool) (hE : E = VaP.sameL t.items o.items)
    (HE : ∀ w', Below w.heap.size w w' → Calls Tryz.prog 74 #[.slice a t.items.length cap, .slice b o.items.length cap', .func (.func 15) #[] #[]] w' fun e w'' => e = .returned (.bool E) ∧ Below w'.heap.size w' w'') :
    Calls Tryz.prog 15 #[vtV t a cap, vtV o b cap'] w fun e w' => e = .returned (.bool (VaP.same t o)) ∧ Below w.heap.size w w' := by
  obtain ⟨hS, hN⟩ := VaP.same_cases t o
  rw [← hE] at hS
  clear hE
  generalize VaP.same t o = S at *
  obtain ⟨k, ⟨n1, n2⟩, tx, on, cd, rw', cl, its⟩ := t
  obtain ⟨k2, ⟨m1, m2⟩, tx2, on2, cd2, rw2, cl2, its2⟩ := o
  unfold vtV at *
  dsimp only at *
  generalize its.length = L1 at *
  generalize its2.length = L2 at *
  obtain ⟨fz, hfz⟩ : ∃ fz, (n1 == m1 && n2 == m2) = fz := ⟨_, rfl⟩
  obtain ⟨oz, hoz⟩ : ∃ oz, (on == on2) = oz := ⟨_, rfl⟩
  have hF : (n1 = m1 ∧ n2 = m2) ↔ fz = true := by rw [← hfz]; simp
  have hO : (on = on2) ↔ oz = true := by rw [← hoz]; simp
  have hA : AggEq Tryz.prog 25 [.str n1, .str n2] [.str m1, .str m2] fz := by rw [← hfz]; exact fracAgg n1 n2 m1 m2
  rw [hF, hO] at hS hN
  refine enter env_ok Tryz.func15 rfl Tryz.results15 Tryz.ntmps15 [] [] [.agg [.int .i64 k, .str n1, .str n2, .str tx, .bool on, .int .i64 cd, .int .i64 rw', .int .i64 cl, .any (.slice a L1 cap)], .agg [.int .i64 k2, .str m1, .str m2, .str tx2, .bool on2, .int .i64 cd2, .int .i64 rw2, .int .i64 cl2, .any (.slice b L2 cap')]] ⟨⟨trivial, trivial, trivial, trivial, trivial, trivial, trivial, trivial, rfl, trivial⟩, ⟨trivial, trivial, trivial, trivial, trivial, trivial, trivial, trivial, rfl, trivial⟩, trivial⟩ (Nat.le_of_ble_eq_true rfl) w _ 1000 ?_
  repeat' (first | ((with_reducible first | show wpS .. | show putD .. | show putW .. | show splitG .. | show wpQ .. | show wpD .. | show wpX .. | show expX .. | show stepX .. | show keepR .. | show wpY ..); conv => whnf) | ((with_reducible show RetN ..); refine retB fun β => ?_) | ((with_reducible show _ ∧ _); first | (refine ⟨fun h => absurd h (by first | omega | decide), fun _ => ?_⟩) | (refine ⟨fun _ => ?_, fun h => absurd h (by first | omega | decide)⟩) | (refine ⟨fun _ => ?_, fun _ => ?_⟩) | (apply And.intro; · kernel_rfl) | (apply And.intro; · (show inK _ _; unfold inK; omega)) | (apply And.intro; · (show (_ : Int) ≤ 9223372036854775807; (try simp only [lenS]); omega))) | ((with_reducible show AllBe ..); refine allBe fun βe => ?_; conv => whnf) | ((with_reducible show bothX ..); refine bothI ?_ ?_; conv => whnf) | (with_reducible exact trivial) | ((with_reducible show CallN ..); refine call_of env_ok rfl 1000 ?_) | ((with_reducible show XopN ..); refine xop_of env_ok rfl 1000 ?_) | ((with_reducible show CallX ..); first | (refine callX (.bool E) (by kernel_rfl) rfl (trivial) (fun β w hm => HE w hm.below) ?_)) | ((with_reducible show OpX ..); first | fail) | ((with_reducible show ∃ _ : SV, _); first | (refine ⟨.bool oz, ?ok, x_eqBV on on2 oz (fun _ => rfl) (fun _ => rfl) hoz Tryz.underlying4, ?_⟩; (case ok => exact fun _ _ => trivial))) | ((with_reducible show ∃ _, _); first | (refine ⟨fz, hA, ?_⟩) | fail))
  all_goals first | (rw [hS ⟨by assumption, by assumption, by assumption, by assumption, by assumption, by assumption, by assumption⟩]; rfl) | (rw [hN (fun h => by simp_all)]; rfl) | (exfalso; simp_all; done) | trace_state
theorem same_upto : ∀ (n : Nat) (t o : VaP.VT), SizeOf.sizeOf t ≤ n → ∀ (a b : Option Addr) (cap cap' : Nat) (w : World), VIn w t a cap → VIn w o b cap' → Calls Tryz.prog 15 #[vtV t a cap, vtV o b cap'] w fun e w' => e = .returned (.bool (VaP.same t o)) ∧ Below w.heap.size w w' := by
  intro n
  induction n with
  | zero =>
    intro t o h
    exfalso
    obtain ⟨k, n, tx, on, cd, r, c, its⟩ := t
    simp only [VaP.VT.mk.sizeOf_spec] at h
    omega
  | succ n ih =>
    intro t o h a b cap cap' w ht ho
    refine same_step t o a b cap cap' w _ rfl (fun w' hb => ?_)
    have ht' := ht.lift hb
    have ho' := ho.lift hb
    obtain ⟨_, _, _, ps, hf, hc, hn, hi, hs⟩ := ht'
    obtain ⟨_, _, _, qs, hf2, hc2, hn2, hi2, hs2⟩ := ho'
    refine eqf_any t.items o.items a b cap cap' ps qs w' hs hs2 hf.it (fun i x y hx hy w'' hb' => ?_)
    have hlt := VaP.item_lt hx
    exact ih x y (by omega) _ _ _ _ w'' ((hi i x hx).lift hb') ((hi2 i y hy).lift hb')
theorem vsame_any (t o : VaP.VT) (a b : Option Addr) (cap cap' : Nat) (w : World) (ht : VIn w t a cap) (ho : VIn w o b cap') : Calls Tryz.prog 15 #[vtV t a cap, vtV o b cap'] w fun e w' => e = .returned (.bool (VaP.same t o)) ∧ Below w.heap.size w w' :=
  same_upto _ t o (Nat.le_refl _) a b cap cap' w ht ho
end Go.Proofs.YtdkhkfdenlabaaaGreatDoor
