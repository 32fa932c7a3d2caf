/- Values, the program: errors of arrays; every value checked. Values, the program: the makers of values; values held against each other. A walk that reckons: an array of numbers, sliced. A walk that reckons: bytes that are known, turned into a string. -/
import Derived.Test.YtdkhkfdenlabaaaGreatDoorVGN
import Derived.Test.YtdkhkfdenlabaaaGreatDoorVGF
set_option linter.unusedSimpArgs false
set_option linter.unusedVariables false
namespace Go.Proofs.YtdkhkfdenlabaaaGreatDoor
open Go.RowKit
open Sym
attribute [local irreducible] Calls Sym.AggEq ExP.nd ExP.dig ExP.upd ExP.writeF ExP.writeE
/-- the error of an array -/
def VaP.arrE (t : VaP.VT) : Int := if t.rows < 1 ∨ 100000 < t.rows ∨ t.cols < 1 ∨ 100000 < t.cols then 2 else if 100000 < t.rows * t.cols then 3 else if (t.items.length : Int) ≠ t.rows * t.cols then 4 else VaP.itsE t.items
theorem itsE_split : ∀ (l : List VaP.VT) (i : Nat), VaP.itsE (l.take i) = 0 → VaP.itsE l = VaP.itsE (l.drop i)
  | [], i, _ => by simp
  | x :: l, 0, _ => rfl
  | x :: l, i + 1, h => by
    simp only [List.take_succ_cons, VaP.itsE] at h
    by_cases hx : VaP.itE x = 0
    · rw [if_neg (fun h => h hx)] at h
      rw [List.drop_succ_cons, ← itsE_split l i h, VaP.itsE, if_neg (fun h => h hx)]
    · rw [if_pos hx] at h; exact absurd h hx
theorem itsE_at {l : List VaP.VT} {i : Nat} {x : VaP.VT} (h : VaP.itsE (l.take i) = 0) (hx : l[i]? = some x) : VaP.itsE l = if VaP.itE x ≠ 0 then VaP.itE x else VaP.itsE (l.drop (i + 1)) := by
  obtain ⟨hlt, he⟩ := List.getElem?_eq_some_iff.1 hx
  rw [itsE_split l i h, List.drop_eq_getElem_cons hlt, he, VaP.itsE]
theorem itsE_next {l : List VaP.VT} {i : Nat} {x : VaP.VT} (h : VaP.itsE (l.take i) = 0) (hx : l[i]? = some x) (hz : VaP.itE x = 0) : VaP.itsE (l.take (i + 1)) = 0 := by
  rw [VaP.itsE_all] at h ⊢
  intro y hy
  obtain ⟨hlt, he⟩ := List.getElem?_eq_some_iff.1 hx
  rw [List.take_succ_eq_append_getElem hlt, he] at hy
  simp only [List.mem_append, List.mem_singleton] at hy
  exact hy.elim (h y) (fun e => by rw [e]; exact hz)
set_option maxRecDepth 100000 in
set_option maxHeartbeats 4000000 in
theorem array_any (t : VaP.VT) (a : Option Addr) (cap : Nat) (w : World) (hw : XV w) (ht : VIn w t a cap) : Calls Tryz.prog 71 #[vtV t a cap] w fun e w' => e = .returned (.int .i64 (VaP.arrE t)) ∧ Below w.heap.size w w' := by
  cases ht with
  | mk t a cap ps hf hc hn hi hs =>
  have hE : VaP.arrE t = if t.rows < 1 ∨ 100000 < t.rows ∨ t.cols < 1 ∨ 100000 < t.cols then 2 else if 100000 < t.rows * t.cols then 3 else if (t.items.length : Int) ≠ t.rows * t.cols then 4 else VaP.itsE t.items := rfl
  have C := fun (i : Nat) (x : VaP.VT) (hx : t.items[i]? = some x) (h5 : x.kind ≠ 5) (w' : World) (h : Below w.heap.size w w') => check_sc x (ps i).1 (ps i).2 w' (hw.below h) (hi i x hx).fit h5
  clear hf hn hi
  obtain ⟨k, ⟨n1, n2⟩, tx, on, cd, R, L, its⟩ := t
  unfold vtV at *
  dsimp only at *
  have hmul : ¬ (R < 1 ∨ 100000 < R ∨ L < 1 ∨ 100000 < L) → 1 ≤ R * L ∧ R * L ≤ 10000000000 := fun h => by
    have h1 : 1 ≤ R := by omega
    have h2 : 1 ≤ L := by omega
    have h3 : R * L ≤ 100000 * 100000 := Int.mul_le_mul (by omega) (by omega) (by omega) (by omega)
    have h4 : 1 * 1 ≤ R * L := Int.mul_le_mul h1 h2 (by omega) (by omega)
    omega
  generalize hn : its.length = n at *
  by_cases hb : R < 1 ∨ 100000 < R ∨ L < 1 ∨ 100000 < L
  · rw [hE, if_pos hb]
    clear hmul
    refine enter env_ok Tryz.func71 rfl Tryz.results71 Tryz.ntmps71 [] [] [.agg [.int .i64 k, .str n1, .str n2, .str tx, .bool on, .int .i64 cd, .int .i64 R, .int .i64 L, .any (.slice a n cap)]] ⟨⟨trivial, trivial, trivial, trivial, trivial, trivial, trivial, trivial, rfl, trivial⟩, trivial⟩ (Nat.le_of_ble_eq_true rfl) w _ 1000 ?_
    repeat' (first | ((with_reducible first | show wpS _ _ _ _ | show putD _ _ _ _ | show putW _ _ _ _ | show splitG _ _ _ | show wpQ _ _ _ _ _ _ | show wpD _ _ _ _ _ _ _ | show wpX _ _ _ _ _ _ _ | show expX _ _ _ _ _ _ | show stepX _ _ _ _ | show keepR _ _ _ | show wpY _ _ _ _); conv => whnf) | ((with_reducible show RetN _ _ _); refine retB fun β => ?_) | ((with_reducible show _ ∧ _); first | (apply And.intro; (· intro h; exfalso; first | omega | (revert h; decide)); intro _) | (apply And.intro; rotate_left; (· intro h; exfalso; first | omega | (revert h; decide)); intro _) | (refine ⟨fun _ => ?_, fun _ => ?_⟩) | (apply And.intro; · kernel_rfl) | (apply And.intro; · (show inK _ _; unfold inK; omega)) | (apply And.intro; · (show (_ : Int) ≤ 9223372036854775807; (try simp only [List.length_append, List.length_drop, List.length_take, List.length_cons, List.length_nil]); omega))) | ((with_reducible show AllBe _); refine allBe fun βe => ?_; conv => whnf) | ((with_reducible show bothX _ _); refine bothI ?_ ?_; conv => whnf) | (with_reducible exact trivial) | ((with_reducible show CallN _ _ _ _ _ _ _ _); refine call_of env_ok rfl 1000 ?_) | ((with_reducible show XopN _ _ _ _ _ _); refine xop_of env_ok rfl 1000 ?_) | ((with_reducible show CallX _ _ _ _ _ _); first | fail) | ((with_reducible show OpX _ _ _ _); first | fail) | ((with_reducible show ∃ _ : SV, _); first | fail) | ((with_reducible show ∃ _, _); first | fail))
    all_goals first | rfl | (exfalso; omega)
  · rw [if_neg hb] at hE
    have hm := hmul hb
    clear hmul
    refine enter env_ok Tryz.func71 rfl Tryz.results71 Tryz.ntmps71 [] [] [.agg [.int .i64 k, .str n1, .str n2, .str tx, .bool on, .int .i64 cd, .int .i64 R, .int .i64 L, .any (.slice a n cap)]] ⟨⟨trivial, trivial, trivial, trivial, trivial, trivial, trivial, trivial, rfl, trivial⟩, trivial⟩ (Nat.le_of_ble_eq_true rfl) w _ 1000 ?_
    repeat' (first | ((with_reducible first | show wpS _ _ _ _ | show putD _ _ _ _ | show putW _ _ _ _ | show splitG _ _ _ | show wpQ _ _ _ _ _ _ | show wpD _ _ _ _ _ _ _ | show wpX _ _ _ _ _ _ _ | show expX _ _ _ _ _ _ | show stepX _ _ _ _ | show keepR _ _ _ | show wpY _ _ _ _); conv => whnf) | ((with_reducible show RetN _ _ _); refine retB fun β => ?_) | ((with_reducible show _ ∧ _); first | (apply And.intro; (· intro h; exfalso; first | omega | (revert h; decide)); intro _) | (apply And.intro; rotate_left; (· intro h; exfalso; first | omega | (revert h; decide)); intro _) | (refine ⟨fun _ => ?_, fun _ => ?_⟩) | (apply And.intro; · kernel_rfl) | (apply And.intro; · (show inK _ _; unfold inK; omega)) | (apply And.intro; · (show (_ : Int) ≤ 9223372036854775807; (try simp only [List.length_append, List.length_drop, List.length_take, List.length_cons, List.length_nil]); omega))) | ((with_reducible show AllBe _); refine allBe fun βe => ?_; conv => whnf) | ((with_reducible show bothX _ _); refine bothI ?_ ?_; conv => whnf) | (with_reducible exact trivial) | ((with_reducible show CallN _ _ _ _ _ _ _ _); refine call_of env_ok rfl 1000 ?_) | ((with_reducible show XopN _ _ _ _ _ _); refine xop_of env_ok rfl 1000 ?_) | ((with_reducible show CallX _ _ _ _ _ _); first | fail) | ((with_reducible show OpX _ _ _ _); first | fail) | ((with_reducible show ∃ _ : SV, _); first | (refine ⟨_, ?ok, x_len Tryz.underlying26, ?_⟩; (case ok => exact fun _ _ => trivial))) | ((with_reducible show ∃ _, _); first | fail))
    all_goals first | (exfalso; omega) | (rw [hE, if_pos (by omega)]; rfl) | (rw [hE, if_neg (by omega), if_pos (by omega)]; rfl) | skip
    rw [if_neg (by omega), if_neg (by omega)] at hE
    rw [hE]
    clear hE
    refine loop env_ok rfl (T := {i : Nat // i ≤ n ∧ VaP.itsE (its.take i) = 0}) (fun t => ⟨[(40, .any (.slice a n cap)), (41, .int .i64 (n : Nat)), (42, .int .i64 (t.1 : Nat))], [], 0, 55⟩) (fun t => n - t.1) ⟨0, Nat.zero_le _, by simp [VaP.itsE]⟩ 1000 [] [] (fun _ => Nat.zero_le _) (by ((with_reducible show wk _ _); repeat' (first | exact trivial | exact eqSV_refl _ | (refine eqI ?_) | (refine eqS ?_) | (with_reducible exact rfl) | apply And.intro | exact Nat.zero_lt_one | exact Nat.le_of_ble_eq_true rfl | (with_reducible assumption) | ((show (_ : Int) = _); (try dsimp only); omega) | ((show eqSV _ _); simp [eqSV, isB, bval, *]; done) | rfl))) (fun t I hI => ?_)
    obtain ⟨i, hi, hz⟩ := t
    dsimp only
    by_cases hlt : i < n
    · obtain ⟨x, hx⟩ : ∃ x, its[i]? = some x := ⟨its[i]'(by omega), List.getElem?_eq_getElem (by omega)⟩
      obtain ⟨ad, rfl, hblk, hcell⟩ := hs i x hx
      have hat := itsE_at hz hx
      have hnx := itsE_next hz hx
      have Cx := C i x hx
      have hiE : VaP.itE x = if x.kind = 5 then 8 else VaP.vErr0 x := rfl
      have hld : ∀ w', Below w.heap.size w w' → ∀ (β : Nat → Nat) (j : Nat) (v : Value), (SV.dens β [.int .i64 x.kind, .str x.num.1, .str x.num.2, .str x.text, .bool x.on, .int .i64 x.code, .int .i64 x.rows, .int .i64 x.cols, .any (.slice (ps i).1 x.items.length (ps i).2)])[j]? = some v → w'.cell? ((ad.add (i * 9)).add j) = some v := fun w' hb β j v hv => by
        rw [Go.Deep.add_add]
        exact cell_below (hcell j v hv) hb
      unfold vtV at Cx
      clear hs C hcell hx hb hm
      generalize (ps i).1 = p1 at *
      generalize (ps i).2 = p2 at *
      generalize VaP.vErr0 x = XE at *
      generalize VaP.itE x = IE at *
      obtain ⟨xk, ⟨m1, m2⟩, xt, xo, xc, xr, xl, xi⟩ := x
      dsimp only at *
      repeat' (first | ((with_reducible first | show wpS _ _ _ _ | show putD _ _ _ _ | show putW _ _ _ _ | show splitG _ _ _ | show wpQ _ _ _ _ _ _ | show wpD _ _ _ _ _ _ _ | show wpX _ _ _ _ _ _ _ | show expX _ _ _ _ _ _ | show stepX _ _ _ _ | show keepR _ _ _ | show wpY _ _ _ _); conv => whnf) | ((with_reducible show RetN _ _ _); refine retB fun β => ?_) | ((with_reducible show _ ∧ _); first | (apply And.intro; (· intro h; exfalso; first | omega | (revert h; decide)); intro _) | (apply And.intro; rotate_left; (· intro h; exfalso; first | omega | (revert h; decide)); intro _) | (refine ⟨fun _ => ?_, fun _ => ?_⟩) | (apply And.intro; · kernel_rfl) | (apply And.intro; · (show inK _ _; unfold inK; omega)) | (apply And.intro; · (show (_ : Int) ≤ 9223372036854775807; (try simp only [List.length_append, List.length_drop, List.length_take, List.length_cons, List.length_nil]); omega))) | ((with_reducible show AllBe _); refine allBe fun βe => ?_; conv => whnf) | ((with_reducible show bothX _ _); refine bothI ?_ ?_; conv => whnf) | (with_reducible exact trivial) | ((with_reducible show CallN _ _ _ _ _ _ _ _); refine call_of env_ok rfl 1000 ?_) | ((with_reducible show XopN _ _ _ _ _ _); refine xop_of env_ok rfl 1000 ?_) | ((with_reducible show CallX _ _ _ _ _ _); first | (refine callX (.int .i64 XE) (by kernel_rfl) rfl (trivial) (fun β w hm => Cx (by assumption) w hm.below) ?_)) | ((with_reducible show OpX _ _ _ _); first | fail) | ((with_reducible show ∃ _ : SV, _); first | (refine ⟨_, ?ok, x_index (j := i) rfl Tryz.underlying26 (fun w => Tryz.sizeOf28 w) (by omega), ?_⟩; (case ok => exact fun _ _ => rfl)) | (refine ⟨_, ?ok, x_loadAgg (vs := [.int .i64 xk, .str m1, .str m2, .str xt, .bool xo, .int .i64 xc, .int .i64 xr, .int .i64 xl, .any (.slice p1 xi.length p2)]) (fun w => Tryz.isAgg28 w) (fun w => Tryz.sizeOf28 w) hld, ?_⟩; (case ok => exact fun _ _ => ⟨trivial, trivial, trivial, trivial, trivial, trivial, trivial, trivial, rfl, trivial⟩))) | ((with_reducible show ∃ _, _); first | fail))
      all_goals first | (exfalso; omega) | (have e : IE = 8 := by { rw [hiE, if_pos (by assumption)] }; rw [hat, e, if_pos (by decide)]; rfl) | (have e : IE = XE := by { rw [hiE, if_neg (by assumption)] }; rw [hat, e, if_pos (by assumption)]; rfl) | (refine hI _ ⟨i + 1, by omega, hnx (by rw [hiE, if_neg (by assumption)]; omega)⟩ (by dsimp only; omega) (by ((with_reducible show wk _ _); repeat' (first | exact trivial | exact eqSV_refl _ | (refine eqI ?_) | (refine eqS ?_) | (with_reducible exact rfl) | apply And.intro | exact Nat.zero_lt_one | exact Nat.le_of_ble_eq_true rfl | (with_reducible assumption) | ((show (_ : Int) = _); (try dsimp only); omega) | ((show eqSV _ _); simp [eqSV, isB, bval, *]; done) | rfl))); done) | trace_state
    · have e : i = n := by omega
      subst e
      rw [← hn, List.take_length] at hz
      rw [hz]
      repeat' (first | ((with_reducible first | show wpS _ _ _ _ | show putD _ _ _ _ | show putW _ _ _ _ | show splitG _ _ _ | show wpQ _ _ _ _ _ _ | show wpD _ _ _ _ _ _ _ | show wpX _ _ _ _ _ _ _ | show expX _ _ _ _ _ _ | show stepX _ _ _ _ | show keepR _ _ _ | show wpY _ _ _ _); conv => whnf) | ((with_reducible show RetN _ _ _); refine retB fun β => ?_) | ((with_reducible show _ ∧ _); first | (apply And.intro; (· intro h; exfalso; first | omega | (revert h; decide)); intro _) | (apply And.intro; rotate_left; (· intro h; exfalso; first | omega | (revert h; decide)); intro _) | (refine ⟨fun _ => ?_, fun _ => ?_⟩) | (apply And.intro; · kernel_rfl) | (apply And.intro; · (show inK _ _; unfold inK; omega)) | (apply And.intro; · (show (_ : Int) ≤ 9223372036854775807; (try simp only [List.length_append, List.length_drop, List.length_take, List.length_cons, List.length_nil]); omega))) | ((with_reducible show AllBe _); refine allBe fun βe => ?_; conv => whnf) | ((with_reducible show bothX _ _); refine bothI ?_ ?_; conv => whnf) | (with_reducible exact trivial) | ((with_reducible show CallN _ _ _ _ _ _ _ _); refine call_of env_ok rfl 1000 ?_) | ((with_reducible show XopN _ _ _ _ _ _); refine xop_of env_ok rfl 1000 ?_) | ((with_reducible show CallX _ _ _ _ _ _); first | fail) | ((with_reducible show OpX _ _ _ _); first | fail) | ((with_reducible show ∃ _ : SV, _); first | fail) | ((with_reducible show ∃ _, _); first | fail))
      all_goals first | rfl | (exfalso; omega)
set_option maxRecDepth 100000 in
set_option maxHeartbeats 4000000 in
theorem vcheck_any (t : VaP.VT) (a : Option Addr) (cap : Nat) (w : World) (hw : XV w) (ht : VIn w t a cap) : Calls Tryz.prog 13 #[vtV t a cap] w fun e w' => e = .returned (.int .i64 (VaP.vErr t)) ∧ Below w.heap.size w w' := by
  have hv : VaP.vErr t = if VaP.vErr0 t ≠ 0 ∨ t.kind ≠ 5 then VaP.vErr0 t else VaP.arrE t := rfl
  by_cases h5 : t.kind = 5
  · by_cases hb : (t.kind < 0 ∨ 5 < t.kind) ∨ VaP.zBad t
    · have h0 : VaP.vErr0 t ≠ 0 := by
        rcases hb with h | h
        · omega
        · rw [vErr0_bad (by omega) h]; omega
      rw [hv, if_pos (.inl h0)]
      exact check_bad t a cap w hw ht.fit hb
    · simp only [not_or] at hb
      have h0 : VaP.vErr0 t = 0 := by
        rw [vErr0_ok (by omega) hb.2, if_neg (by omega), if_neg (by omega), if_neg (by omega)]
      rw [hv, if_neg (by omega)]
      have Z := fun (w' : World) => zeros_any t a cap w' 0 (fun h => absurd h hb.2) (fun _ => rfl)
      have A := fun (w' : World) (h : Below w.heap.size w w') => array_any t a cap w' (hw.below h) (ht.lift h)
      clear hv h0 hb ht
      generalize VaP.arrE t = AE at *
      obtain ⟨k, ⟨n1, n2⟩, tx, on, cd, rw', cl, its⟩ := t
      unfold vtV at *
      dsimp only at *
      subst h5
      refine enter env_ok Tryz.func13 rfl Tryz.results13 Tryz.ntmps13 [] [] [.agg [.int .i64 5, .str n1, .str n2, .str tx, .bool on, .int .i64 cd, .int .i64 rw', .int .i64 cl, .any (.slice a its.length cap)]] ⟨⟨trivial, trivial, trivial, trivial, trivial, trivial, trivial, trivial, rfl, trivial⟩, trivial⟩ (Nat.le_of_ble_eq_true rfl) w _ 1000 ?_
      repeat' (first | ((with_reducible first | show wpS _ _ _ _ | show putD _ _ _ _ | show putW _ _ _ _ | show splitG _ _ _ | show wpQ _ _ _ _ _ _ | show wpD _ _ _ _ _ _ _ | show wpX _ _ _ _ _ _ _ | show expX _ _ _ _ _ _ | show stepX _ _ _ _ | show keepR _ _ _ | show wpY _ _ _ _); conv => whnf) | ((with_reducible show RetN _ _ _); refine retB fun β => ?_) | ((with_reducible show _ ∧ _); first | (apply And.intro; (· intro h; exfalso; first | omega | (revert h; decide)); intro _) | (apply And.intro; rotate_left; (· intro h; exfalso; first | omega | (revert h; decide)); intro _) | (refine ⟨fun _ => ?_, fun _ => ?_⟩) | (apply And.intro; · kernel_rfl) | (apply And.intro; · (show inK _ _; unfold inK; omega)) | (apply And.intro; · (show (_ : Int) ≤ 9223372036854775807; (try simp only [List.length_append, List.length_drop, List.length_take, List.length_cons, List.length_nil]); omega))) | ((with_reducible show AllBe _); refine allBe fun βe => ?_; conv => whnf) | ((with_reducible show bothX _ _); refine bothI ?_ ?_; conv => whnf) | (with_reducible exact trivial) | ((with_reducible show CallN _ _ _ _ _ _ _ _); refine call_of env_ok rfl 1000 ?_) | ((with_reducible show XopN _ _ _ _ _ _); refine xop_of env_ok rfl 1000 ?_) | ((with_reducible show CallX _ _ _ _ _ _); first | (refine callX (.int .i64 0) (by kernel_rfl) rfl (trivial) (fun β w hm => Z w) ?_) | (refine callX (.int .i64 AE) (by kernel_rfl) rfl (trivial) (fun β w hm => A w hm.below) ?_) | fail) | ((with_reducible show OpX _ _ _ _); first | fail) | ((with_reducible show ∃ _ : SV, _); first | fail) | ((with_reducible show ∃ _, _); first | fail))
      all_goals first | (exfalso; omega) | rfl | trace_state
  · rw [hv, if_pos (.inr h5)]
    exact check_sc t a cap w hw ht.fit h5
end Go.Proofs.YtdkhkfdenlabaaaGreatDoor
namespace Go.Proofs.YtdkhkfdenlabaaaGreatDoor
open Go.RowKit
open Sym
attribute [local irreducible] Calls Sym.AggEq ExP.nd ExP.dig ExP.upd ExP.writeF ExP.writeE
abbrev IsV (t : VaP.VT) (w : World) (e : Ending) (w' : World) : Prop := e = .returned (vtV t none 0) ∧ Below w.heap.size w w'
set_option maxRecDepth 100000 in
set_option maxHeartbeats 4000000 in
theorem valid_good (t : VaP.VT) (a : Option Addr) (cap : Nat) (w : World) (hw : XV w) (ht : VIn w t a cap) (h : VaP.vErr t = 0) : Calls Tryz.prog 76 #[vtV t a cap] w fun e w' => e = .returned (vtV t a cap) ∧ Below w.heap.size w w' := by
  have C := fun (w' : World) (hb : Below w.heap.size w w') => vcheck_any t a cap w' (hw.below hb) (ht.lift hb)
  rw [h] at C
  clear ht h
  obtain ⟨k, ⟨n1, n2⟩, tx, on, cd, rw', cl, its⟩ := t
  unfold vtV at *
  dsimp only at *
  refine enter env_ok Tryz.func76 rfl Tryz.results76 Tryz.ntmps76 [] [] [.agg [.int .i64 k, .str n1, .str n2, .str tx, .bool on, .int .i64 cd, .int .i64 rw', .int .i64 cl, .any (.slice a its.length cap)]] ⟨⟨trivial, trivial, trivial, trivial, trivial, trivial, trivial, trivial, rfl, trivial⟩, trivial⟩ (Nat.le_of_ble_eq_true rfl) w _ 1000 ?_
  repeat' (first | ((with_reducible first | show wpS _ _ _ _ | show putD _ _ _ _ | show putW _ _ _ _ | show splitG _ _ _ | show wpQ _ _ _ _ _ _ | show wpD _ _ _ _ _ _ _ | show wpX _ _ _ _ _ _ _ | show expX _ _ _ _ _ _ | show stepX _ _ _ _ | show keepR _ _ _ | show wpY _ _ _ _); conv => whnf) | ((with_reducible show RetN _ _ _); refine retB fun β => ?_) | ((with_reducible show _ ∧ _); first | (apply And.intro; (· intro h; exfalso; first | omega | (revert h; decide)); intro _) | (apply And.intro; rotate_left; (· intro h; exfalso; first | omega | (revert h; decide)); intro _) | (refine ⟨fun _ => ?_, fun _ => ?_⟩) | (apply And.intro; · kernel_rfl) | (apply And.intro; · (show inK _ _; unfold inK; omega)) | (apply And.intro; · (show (_ : Int) ≤ 9223372036854775807; (try simp only [List.length_append, List.length_drop, List.length_take, List.length_cons, List.length_nil]); omega))) | ((with_reducible show AllBe _); refine allBe fun βe => ?_; conv => whnf) | ((with_reducible show bothX _ _); refine bothI ?_ ?_; conv => whnf) | (with_reducible exact trivial) | ((with_reducible show CallN _ _ _ _ _ _ _ _); refine call_of env_ok rfl 1000 ?_) | ((with_reducible show XopN _ _ _ _ _ _); refine xop_of env_ok rfl 1000 ?_) | ((with_reducible show CallX _ _ _ _ _ _); first | (refine callX (.int .i64 0) (by kernel_rfl) rfl (trivial) (fun β w hm => C w hm.below) ?_)) | ((with_reducible show OpX _ _ _ _); first | fail) | ((with_reducible show ∃ _ : SV, _); first | fail) | ((with_reducible show ∃ _, _); first | fail))
  all_goals first | (exfalso; omega) | rfl
set_option maxRecDepth 100000 in
set_option maxHeartbeats 4000000 in
theorem valid_bad (t : VaP.VT) (a : Option Addr) (cap : Nat) (w : World) (hw : XV w) (ht : VIn w t a cap) (h : VaP.vErr t ≠ 0) : Calls Tryz.prog 76 #[vtV t a cap] w (IsV (VaP.faultV 2) w) := by
  have C := fun (w' : World) (hb : Below w.heap.size w w') => vcheck_any t a cap w' (hw.below hb) (ht.lift hb)
  generalize VaP.vErr t = E at *
  clear ht
  obtain ⟨k, ⟨n1, n2⟩, tx, on, cd, rw', cl, its⟩ := t
  unfold vtV at *
  dsimp only at *
  refine enter env_ok Tryz.func76 rfl Tryz.results76 Tryz.ntmps76 [] [] [.agg [.int .i64 k, .str n1, .str n2, .str tx, .bool on, .int .i64 cd, .int .i64 rw', .int .i64 cl, .any (.slice a its.length cap)]] ⟨⟨trivial, trivial, trivial, trivial, trivial, trivial, trivial, trivial, rfl, trivial⟩, trivial⟩ (Nat.le_of_ble_eq_true rfl) w _ 1000 ?_
  repeat' (first | ((with_reducible first | show wpS _ _ _ _ | show putD _ _ _ _ | show putW _ _ _ _ | show splitG _ _ _ | show wpQ _ _ _ _ _ _ | show wpD _ _ _ _ _ _ _ | show wpX _ _ _ _ _ _ _ | show expX _ _ _ _ _ _ | show stepX _ _ _ _ | show keepR _ _ _ | show wpY _ _ _ _); conv => whnf) | ((with_reducible show RetN _ _ _); refine retB fun β => ?_) | ((with_reducible show _ ∧ _); first | (apply And.intro; (· intro h; exfalso; first | omega | (revert h; decide)); intro _) | (apply And.intro; rotate_left; (· intro h; exfalso; first | omega | (revert h; decide)); intro _) | (refine ⟨fun _ => ?_, fun _ => ?_⟩) | (apply And.intro; · kernel_rfl) | (apply And.intro; · (show inK _ _; unfold inK; omega)) | (apply And.intro; · (show (_ : Int) ≤ 9223372036854775807; (try simp only [List.length_append, List.length_drop, List.length_take, List.length_cons, List.length_nil]); omega))) | ((with_reducible show AllBe _); refine allBe fun βe => ?_; conv => whnf) | ((with_reducible show bothX _ _); refine bothI ?_ ?_; conv => whnf) | (with_reducible exact trivial) | ((with_reducible show CallN _ _ _ _ _ _ _ _); refine call_of env_ok rfl 1000 ?_) | ((with_reducible show XopN _ _ _ _ _ _); refine xop_of env_ok rfl 1000 ?_) | ((with_reducible show CallX _ _ _ _ _ _); first | (refine callX (.int .i64 E) (by kernel_rfl) rfl (trivial) (fun β w hm => C w hm.below) ?_)) | ((with_reducible show OpX _ _ _ _); first | fail) | ((with_reducible show ∃ _ : SV, _); first | fail) | ((with_reducible show ∃ _, _); first | fail))
  all_goals first | (exfalso; omega) | rfl
/-- a value without items -/
theorem VIn.flat {w : World} {t : VaP.VT} (h : t.items = []) (hf : t.Fit) : VIn w t none 0 :=
  .mk t none 0 (fun _ => (none, 0)) hf (by rw [h]; exact Nat.le_refl _) (fun _ => rfl) (fun i x hx => by rw [h] at hx; simp at hx) (fun i x hx => by rw [h] at hx; simp at hx)
theorem valid_flat (t : VaP.VT) (w : World) (hw : XV w) (hi : t.items = []) (hf : t.Fit) : Calls Tryz.prog 76 #[vtV t none 0] w (IsV (if VaP.vErr t = 0 then t else VaP.faultV 2) w) := by
  by_cases h : VaP.vErr t = 0
  · rw [if_pos h]; exact valid_good t none 0 w hw (.flat hi hf) h
  · rw [if_neg h]; exact valid_bad t none 0 w hw (.flat hi hf) h
theorem VaP.vErr_num (f : ExP.Fr) : VaP.vErr (VaP.numF f) = ExP.readE f := by
  unfold VaP.vErr VaP.vErr0 VaP.numF
  simp
set_option maxRecDepth 100000 in
theorem vnumber_any (f : ExP.Fr) (w : World) (hw : XV w) (h1 : f.1.length ≤ 9223372036854775807) (h2 : f.2.length ≤ 9223372036854775807) : Calls Tryz.prog 19 #[frV f] w (IsV (if ExP.readE f = 0 then VaP.numF f else VaP.faultV 2) w) := by
  have V := fun (w' : World) (hb : Below w.heap.size w w') => valid_flat (VaP.numF f) w' (hw.below hb) rfl ⟨h1, h2, Nat.zero_le _⟩
  rw [VaP.vErr_num] at V
  obtain ⟨f1, f2⟩ := f
  by_cases h : ExP.readE (f1, f2) = 0
  · simp only [if_pos h] at V ⊢
    refine enter env_ok Tryz.func19 rfl Tryz.results19 Tryz.ntmps19 [] [] [.agg [.str f1, .str f2]] (by simp [SV.oks, SV.ok]) (Nat.le_of_ble_eq_true rfl) w _ 1000 ?_
    repeat' (first | ((with_reducible first | show wpS _ _ _ _ | show putD _ _ _ _ | show putW _ _ _ _ | show splitG _ _ _ | show wpQ _ _ _ _ _ _ | show wpD _ _ _ _ _ _ _ | show wpX _ _ _ _ _ _ _ | show expX _ _ _ _ _ _ | show stepX _ _ _ _ | show keepR _ _ _ | show wpY _ _ _ _); conv => whnf) | ((with_reducible show RetN _ _ _); refine retB fun β => ?_) | ((with_reducible show _ ∧ _); first | (apply And.intro; (· intro h; exfalso; first | omega | (revert h; decide)); intro _) | (apply And.intro; rotate_left; (· intro h; exfalso; first | omega | (revert h; decide)); intro _) | (refine ⟨fun _ => ?_, fun _ => ?_⟩) | (apply And.intro; · kernel_rfl) | (apply And.intro; · (show inK _ _; unfold inK; omega)) | (apply And.intro; · (show (_ : Int) ≤ 9223372036854775807; (try simp only [List.length_append, List.length_drop, List.length_take, List.length_cons, List.length_nil]); omega))) | ((with_reducible show AllBe _); refine allBe fun βe => ?_; conv => whnf) | ((with_reducible show bothX _ _); refine bothI ?_ ?_; conv => whnf) | (with_reducible exact trivial) | ((with_reducible show CallN _ _ _ _ _ _ _ _); refine call_of env_ok rfl 1000 ?_) | ((with_reducible show XopN _ _ _ _ _ _); refine xop_of env_ok rfl 1000 ?_) | ((with_reducible show CallX _ _ _ _ _ _); first | (refine callX (.agg [.int .i64 1, .str f1, .str f2, .str [], .lit false, .int .i64 0, .int .i64 0, .int .i64 0, .any (.slice none 0 0)]) (by kernel_rfl) rfl (⟨trivial, trivial, trivial, trivial, trivial, trivial, trivial, trivial, rfl, trivial⟩) (fun β w hm => V w hm.below) ?_)) | ((with_reducible show OpX _ _ _ _); first | fail) | ((with_reducible show ∃ _ : SV, _); first | fail) | ((with_reducible show ∃ _, _); first | fail))
    all_goals rfl
  · simp only [if_neg h] at V ⊢
    refine enter env_ok Tryz.func19 rfl Tryz.results19 Tryz.ntmps19 [] [] [.agg [.str f1, .str f2]] (by simp [SV.oks, SV.ok]) (Nat.le_of_ble_eq_true rfl) w _ 1000 ?_
    repeat' (first | ((with_reducible first | show wpS _ _ _ _ | show putD _ _ _ _ | show putW _ _ _ _ | show splitG _ _ _ | show wpQ _ _ _ _ _ _ | show wpD _ _ _ _ _ _ _ | show wpX _ _ _ _ _ _ _ | show expX _ _ _ _ _ _ | show stepX _ _ _ _ | show keepR _ _ _ | show wpY _ _ _ _); conv => whnf) | ((with_reducible show RetN _ _ _); refine retB fun β => ?_) | ((with_reducible show _ ∧ _); first | (apply And.intro; (· intro h; exfalso; first | omega | (revert h; decide)); intro _) | (apply And.intro; rotate_left; (· intro h; exfalso; first | omega | (revert h; decide)); intro _) | (refine ⟨fun _ => ?_, fun _ => ?_⟩) | (apply And.intro; · kernel_rfl) | (apply And.intro; · (show inK _ _; unfold inK; omega)) | (apply And.intro; · (show (_ : Int) ≤ 9223372036854775807; (try simp only [List.length_append, List.length_drop, List.length_take, List.length_cons, List.length_nil]); omega))) | ((with_reducible show AllBe _); refine allBe fun βe => ?_; conv => whnf) | ((with_reducible show bothX _ _); refine bothI ?_ ?_; conv => whnf) | (with_reducible exact trivial) | ((with_reducible show CallN _ _ _ _ _ _ _ _); refine call_of env_ok rfl 1000 ?_) | ((with_reducible show XopN _ _ _ _ _ _); refine xop_of env_ok rfl 1000 ?_) | ((with_reducible show CallX _ _ _ _ _ _); first | (refine callX (.agg [.int .i64 4, .str [], .str [], .str [], .lit false, .int .i64 2, .int .i64 0, .int .i64 0, .any (.slice none 0 0)]) (by kernel_rfl) rfl (⟨trivial, trivial, trivial, trivial, trivial, trivial, trivial, trivial, rfl, trivial⟩) (fun β w hm => V w hm.below) ?_)) | ((with_reducible show OpX _ _ _ _); first | fail) | ((with_reducible show ∃ _ : SV, _); first | fail) | ((with_reducible show ∃ _, _); first | fail))
    all_goals rfl
end Go.Proofs.YtdkhkfdenlabaaaGreatDoor
namespace Go.Proofs.YtdkhkfdenlabaaaGreatDoor
open Go.RowKit
namespace Sym
/-- a row is known otherwise -/
theorem Sat.rerow {base : Nat} {w0 : Base} {β : Nat → Nat} {a : Act} {w : World} {fr : List (Nat × SV)} {rows : List (Nat × Bool × SRow)} {nx n i : Nat} {o : Bool} {r r' : SRow} (hs : Sat base w0 ⟨fr, rows, nx, n⟩ β a w) (hi : get rows i = some (o, r)) (hr : RowIs w β (β i) r') (ho : r'.ok nx) :
    Sat base w0 ⟨fr, (i, o, r') :: rows, nx, n⟩ β a w := by
  obtain ⟨h1, h2, h3, h4⟩ := hs
  have old : ∀ j ow rw, get ((i, o, r') :: rows) j = some (ow, rw) → ∃ r0, get rows j = some (ow, r0) := fun j ow rw hj => by
    rw [get_cons] at hj
    by_cases e : i = j
    · rw [if_pos e] at hj
      cases hj
      subst e
      exact ⟨_, hi⟩
    · rw [if_neg e] at hj
      exact ⟨_, hj⟩
  refine ⟨h1, h2, h3, ⟨h4.below, h4.base_le, fun j ow rw hj => ?_, h4.lt, fun j l r1 ol r2 hj hl hlj => ?_, h4.n0, h4.ext⟩⟩
  · rw [get_cons] at hj
    by_cases e : i = j
    · rw [if_pos e] at hj
      cases hj
      subst e
      have := h4.row i o r hi
      exact ⟨hr, ho, this.2.2.1, this.2.2.2⟩
    · rw [if_neg e] at hj
      exact h4.row j ow rw hj
  · obtain ⟨p, hp⟩ := old _ _ _ hj
    obtain ⟨q, hq⟩ := old _ _ _ hl
    exact h4.inj j l p ol q hp hq hlj
/-- the beginning of an array -/
theorem opx_arr {C : Ctx} {d : Nat} {ty : TypeId} {pos : String} {after : Array Edge} {gd : Option (Nat × Bool)} {fr : List (Nat × SV)} {rows : List (Nat × Bool × SRow)} {nx n : Nat} {K : St → Prop}
    {x hi : Operand} {t e t' : TypeId} {i len j : Nat} {cs : List SV} {kd : IntKind} {q : Int} (xs : List Value) (hd : Nat.blt d n = true) (hx : ev fr x = some (.ptr i 0)) (hh : ev fr hi = some (.int kd q)) (hq : q = (j : Nat)) (ri : get rows i = some (true, .cells t' cs))
    (ht : C.P.underlying t = some (.array len e)) (hs : ∀ w, (sizeOf e).run C.P w = .ok 1 w) (hc : ∀ β, SV.dens β cs = xs) (hl : xs.length = len) (hm : len ≤ maxLen) (hj : j ≤ len)
    (h : ∀ g, K ⟨(d, .any (.slice (some ⟨g, 0, none⟩) j len)) :: fr, (i, true, .blob (OwnS t' 1 g len len xs)) :: rows, nx, n⟩) :
    OpX C ⟨some d, .slice t x none (some hi) none, ty, pos, after, gd⟩ ⟨fr, rows, nx, n⟩ K := by
  subst hq
  unfold OpX
  intro β a w hsat next Q hn
  have e1 := (ev_sound hsat hx).1
  have e2 := (ev_sound hsat hh).1
  have q0 : (underlying t).run C.P w = .ok (.array len e) w := by simp [underlying, ht]
  have hj0 : ¬ ((len : Int) < (j : Int)) := by omega
  have hr : (execOp a.eval ⟨some d, .slice t x none (some hi) none, ty, pos, after, gd⟩).run C.P w = .ok (.value (.slice (some ⟨β i, 0, none⟩) j len)) w := by
    simp [execOp, e1, e2, SV.den, Instr.sliceAt, Instr.sureAddr, q0, hs, Instr.sliceBounds, Instr.sliceBound, asIntOf, hj0, add_zero]
    intro hlt; exfalso; omega
  unfold Oper.wp
  rw [hr]
  obtain ⟨k1, k2, k3, k4⟩ := hsat.mem.row i true _ ri
  have hrow : w.heap[β i]? = some (.cells xs.toArray t' (0, 0)) := by
    have := k1
    simp only [RowIs] at this
    rw [hc] at this
    exact this
  have hs2 := hsat.rerow (r' := .blob (OwnS t' 1 (β i) len len xs)) ri ⟨hsat.mem.lt i k3, rfl, xs.toArray, hrow, Nat.le_refl _, hm, by simp [hl], by simp [List.take_of_length_le, hl], by simp [hl]⟩ trivial
  exact hn _ β _ w (h (β i)) (hs2.put (by simpa [Nat.blt_eq] using hd) rfl)
def enumL {α : Type} : Nat → List α → List (Nat × α)
  | _, [] => []
  | p, v :: r => (p, v) :: enumL (p + 1) r
theorem fill_all : ∀ (vs pre post : List Value), (∀ v ∈ vs, v.cells = #[v]) → post.length = vs.length → Instr.fill (fun i => some (i, 1)) (pre ++ post).toArray (enumL pre.length vs) = some (pre ++ vs).toArray
  | [], pre, post, _, hl => by
    have : post = [] := List.eq_nil_of_length_eq_zero hl
    subst this; rfl
  | v :: vs, pre, post, h, hl => by
    cases post with
    | nil => cases hl
    | cons q post =>
      have hv := h v (by simp)
      have ih := fill_all vs (pre ++ [v]) post (fun u hu => h u (by simp [hu])) (by simpa using hl)
      have hlen : (pre ++ [v]).length = pre.length + 1 := by simp
      rw [hlen] at ih
      have hA : ((pre ++ q :: post).toArray).setIfInBounds (pre.length + 0) v = (pre ++ [v] ++ post).toArray := by
        apply Array.toList_inj.1
        simp
      show (match (some (pre.length, 1) : Option (Nat × Nat)) with
        | none => none
        | some (off, size) => if v.cells.size ≠ size || off + v.cells.size > (pre ++ q :: post).toArray.size then none else Instr.fill (fun i => some (i, 1)) (v.cells.zipIdx.foldl (fun cs (c, j) => cs.setIfInBounds (off + j) c) (pre ++ q :: post).toArray) (enumL (pre.length + 1) vs)) = _
      rw [hv]
      have hc : ¬ ((#[v].size ≠ 1 || decide (pre.length + #[v].size > (pre ++ q :: post).toArray.size)) = true) := by simp
      have hz : (#[v].zipIdx.foldl (fun cs (x : Value × Nat) => cs.setIfInBounds (pre.length + x.2) x.1) (pre ++ q :: post).toArray) = (pre ++ [v] ++ post).toArray := hA
      dsimp only
      rw [if_neg hc]
      have hz' : (#[v].zipIdx.foldl (fun cs x => match x with | (c, j) => cs.setIfInBounds (pre.length + j) c) (pre ++ q :: post).toArray) = (pre ++ [v] ++ post).toArray := hz
      rw [hz', ih]
      simp
theorem enumL_map {α β : Type} (f : α → β) : ∀ (p : Nat) (l : List α), (enumL p l).map (fun (x : Nat × α) => (x.1, f x.2)) = enumL p (l.map f)
  | _, [] => rfl
  | p, v :: r => by simp only [enumL, List.map_cons, enumL_map f (p + 1) r]
/-- an array of single cells, written out -/
theorem x_buildArr {C : Ctx} {G : Blobs} {ps : List (Nat × Operand)} {vs : List SV} {t e : TypeId} {len : Nat} {z : Value} (hp : ps = enumL 0 (ps.map (·.2))) (ht : C.P.underlying t = some (.array len e)) (hs : ∀ w, (sizeOf e).run C.P w = .ok 1 w) (hz : ∀ w, (zeroValue t).run C.P w = .ok z w) (hc : z.cells.size = vs.length) (h1 : ∀ β, ∀ u ∈ SV.dens β vs, u.cells = #[u]) :
    ExtN C G (.build t ⟨ps⟩) vs (.agg vs) := by
  unfold ExtN
  intro ρ β w dst ty pos after g _ _ h
  have h : (ps.map (·.2)).map ρ = SV.dens β vs := by
    have h : ps.map (fun x => ρ x.2) = SV.dens β vs ∨ (ps.map (·.2)).map ρ = SV.dens β vs := .inr h
    exact h.elim (fun h => by rw [List.map_map]; exact h) id
  have q : (underlying t).run C.P w = .ok (.array len e) w := by simp [underlying, ht]
  have e1 : (((⟨ps⟩ : Array (Nat × Operand)).map fun (i, x) => (i, ρ x)).toList) = enumL 0 (SV.dens β vs) := by
    rw [← h, ← enumL_map, ← hp]
    simp
  have f1 : Instr.fill (fun i => some (i * 1, 1)) z.cells (enumL 0 (SV.dens β vs)) = some (SV.dens β vs).toArray := by
    have := fill_all (SV.dens β vs) [] z.cells.toList (h1 β) (by rw [SV.dens_len]; simpa using hc)
    simpa using this
  have hb : (Instr.build t ((⟨ps⟩ : Array (Nat × Operand)).map fun (i, x) => (i, ρ x))).run C.P w = .ok (.agg (SV.dens β vs).toArray) w := by
    unfold Instr.build
    rw [Sem.run_bind, hz]
    simp only [Result.andThen_ok, Sem.run_bind, q, hs, e1, f1]
    rfl
  simp only [execOp, Sem.run_bind, hb]
  simp [SV.den]
def allInt : List SV → Bool
  | [] => true
  | .int _ _ :: r => allInt r
  | _ => false
theorem allInt_cells : ∀ {vs : List SV}, allInt vs = true → ∀ β, ∀ u ∈ SV.dens β vs, u.cells = #[u]
  | [], _, _, u, h => by cases h
  | .int k n :: r, h, β, u, hu => by
    rcases List.mem_cons.1 hu with rfl | hu
    · rfl
    · exact allInt_cells (vs := r) h β u hu
/-- a cell of a row that is written out, at a place that is named by its content alone -/
theorem opx_loadC {C : Ctx} {d : Nat} {ty : TypeId} {pos : String} {after : Array Edge} {gd : Option (Nat × Bool)} {fr : List (Nat × SV)} {rows : List (Nat × Bool × SRow)} {nx n : Nat} {K : St → Prop}
    {x : Operand} {t t' : TypeId} {i off : Nat} {o : Bool} {cs : List SV} (v : SV) (hd : Nat.blt d n = true) (hag : ∀ w, (isAgg t).run C.P w = .ok false w)
    (hx : ev fr x = some (.ptr i off)) (ri : get rows i = some (o, .cells t' cs)) (hv : cs[off]? = some v)
    (h : K ⟨(d, v) :: fr, rows, nx, n⟩) : OpX C ⟨some d, .load t x, ty, pos, after, gd⟩ ⟨fr, rows, nx, n⟩ K := by
  unfold OpX
  intro β a w hs next Q hn
  obtain ⟨k1, k2, k3, k4⟩ := hs.mem.row i o _ ri
  have k1 : Row w (β i) t' (SV.dens β cs).toArray := k1
  have e1 := (ev_sound hs hx).1
  have hc : w.cell? ⟨β i, off, none⟩ = some (v.den β) := by
    rw [k1.cell]
    have := SV.dens_get β cs off
    rw [hv] at this
    simpa using this
  have hrun : (execOp a.eval ⟨some d, .load t x, ty, pos, after, gd⟩).run C.P w = .ok (.value (v.den β)) w := by
    simp [execOp, Instr.loadAt, Instr.sureAddr, e1, SV.den, loadVar, hag, hc]
  unfold Oper.wp
  rw [hrun]
  exact hn _ β _ w h (hs.put (by simpa [Nat.blt_eq] using hd) (SV.oks_get cs off v k2 hv))
theorem x_indexPtrI {C : Ctx} {G : Blobs} {x y : Operand} {t e : TypeId} {i off len j sz : Nat} {q : Int} (hq : q = (j : Nat)) (ht : C.P.underlying t = some (.array len e)) (hs : ∀ w, (sizeOf e).run C.P w = .ok sz w) (hj : j < len) :
    ExtN C G (.indexAddr t x y) [.ptr i off, .int .i64 q] (.ptr i (off + j * sz)) := by
  subst hq; exact x_indexPtr ht hs hj
end Sym
end Go.Proofs.YtdkhkfdenlabaaaGreatDoor
namespace Go.Proofs.YtdkhkfdenlabaaaGreatDoor
open Go.RowKit
namespace Sym
theorem x_bytesStrF {C : Ctx} {G : Blobs} {x : Operand} {t u e : TypeId} {g cap n bs : Nat} (i : Nat) (l : List UInt8) (hs : C.P.underlying t = some (.slice e)) (he : C.P.underlying e = some (.int .u8)) (hd : C.P.underlying u = some .string)
    (ri : G i = some (SlF bs (some ⟨g, 0, none⟩) (bvals l))) (hn : n = l.length) : ExtN C G (.convert t u x) [.any (.slice (some ⟨g, 0, none⟩) n cap)] (.str l) := by
  unfold ExtN
  intro ρ β w dst ty pos after gd _ hG h
  have e1 : ρ x = .slice (some ⟨g, 0, none⟩) n cap := by simpa [opsX, SV.dens, SV.den] using h
  obtain ⟨hb, ho⟩ := hG i _ ri
  have hc := SlF.at ho hb
  subst hn
  have hr := run_convert_bytes_back (P := C.P) w t u e ⟨g, 0, none⟩ cap l hs he hd (fun j hj => by
    obtain ⟨ad, h1, -, h3⟩ := hc j (.int .u8 ((l[j]'hj).toNat : Int)) (by simp [bvals, hj])
    cases h1
    rw [h3])
  simp [execOp, e1, hr, SV.den, bstr]
end Sym
end Go.Proofs.YtdkhkfdenlabaaaGreatDoor
