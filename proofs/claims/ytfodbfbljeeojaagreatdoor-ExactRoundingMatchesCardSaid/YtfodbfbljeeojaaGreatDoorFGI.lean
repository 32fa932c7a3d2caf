/- What the variable ErrRange holds, in a world that reads as the rows list it. Square roots; fractions written and read again; comparisons. Decimal numbers read. The program's numbers: one, compare, plus. The program's numbers: sums and differences. -/
import Derived.Test.YtfodbfbljeeojaaGreatDoorFExWit
import Derived.Test.YtfodbfbljeeojaaGreatDoorFGF
import Derived.Test.YtfodbfbljeeojaaGreatDoorFGG
import Derived.Test.YtfodbfbljeeojaaGreatDoorFGE
set_option linter.unusedSimpArgs false
set_option linter.unusedVariables false
namespace Go.Proofs.YtfodbfbljeeojaaGreatDoor
open Go.ChangeShapes Go.WideShapes Go.ChangeAt Go.RowKit
/-- an error lies in the variable ErrRange -/
def XE (w : World) : Prop := ∃ te pe, w.cell? ⟨1, 0, none⟩ = some (.iface te pe)
theorem errRange {W : World} (h : laidMetH Tryz.prog Rows.exactOperationsMatchRow.laid W) : XE W := by
  have h1 := h.filter (fun x => x.1 == "strconv.ErrRange")
  have e : (Rows.exactOperationsMatchRow.laid.filter fun x => x.1 == "strconv.ErrRange") = [("strconv.ErrRange", Rows.laid_strconv_ErrRange)] := by kernel_rfl
  rw [e] at h1
  obtain ⟨ps, ⟨g, t, cs, fuel, p, q, hg, ht, hvar, hd, h5, h6⟩, h7⟩ := h1
  have hgg : Tryz.prog.globalNamed "strconv.ErrRange" = some 1 := by kernel_rfl
  obtain rfl := Option.some.inj (hg.symm.trans hgg)
  unfold Rows.laid_strconv_ErrRange at hd
  have hty : (Tryz.prog.globals[1]?).map (·.type) = some 106 := by kernel_rfl
  obtain rfl := Option.some.inj (ht.symm.trans hty)
  have hu : ∃ ms, Tryz.prog.underlying 106 = some (.interface ms) := ⟨_, Tryz.underlying106⟩
  obtain ⟨ms, hu⟩ := hu
  have hl : ∃ te pe, cs.toList = [.iface te pe] := by
    clear h hvar h7 h6
    generalize cs.toList = l at hd
    cases fuel with
    | zero => simp [DataW.trod] at hd
    | succ fuel =>
      unfold DataW.trod at hd
      rw [hu] at hd
      split at hd <;> first | exact ⟨_, _, rfl⟩ | (exfalso; simp_all; done)
  obtain ⟨te, pe, hl⟩ := hl
  refine ⟨te, pe, ?_⟩
  have := World.var?_cell hg hvar 0
  rw [this, ← Array.getElem?_toList, hl]
  rfl
end Go.Proofs.YtfodbfbljeeojaaGreatDoor
namespace Go.Proofs.YtfodbfbljeeojaaGreatDoor
namespace ExP
/-- the square root, rounded down -/
def SqI (a x : Nat) : Prop := a < (x + 1) * (x + 1)
theorem dec_ne (x : Nat) : Lib.decDigits x ≠ [] := by
  rw [Lib.decDigits]; split <;> simp
theorem cutM_dec (x : Nat) : cutM (Lib.decDigits x) = (Lib.decDigits x, false) := by
  have h := dec_digits x
  generalize Lib.decDigits x = l at *
  unfold cutM
  cases l with
  | nil => rfl
  | cons c r =>
    have hc : c ≠ 45 := by
      rintro rfl
      simp [digC] at h
    simp [hc]
end ExP
end Go.Proofs.YtfodbfbljeeojaaGreatDoor
namespace Go.Proofs.YtfodbfbljeeojaaGreatDoor
namespace ExP
/-- a power of ten -/
def scaleN (x : Num) (k : Int) : Num := if k < 0 then ⟨x.m, x.n, x.d * 10 ^ k.natAbs⟩ else ⟨x.m, x.n * 10 ^ k.natAbs, x.d⟩
theorem ten_val (k : Nat) : valS (49 :: List.replicate k 48) = 10 ^ k ∧ (49 :: List.replicate k 48 : Str).all digC = true := by
  constructor
  · induction k with
    | zero => rfl
    | succ k ih =>
      rw [List.replicate_succ', ← List.cons_append, val_snoc, ih, Nat.pow_succ]
      simp
  · simp [digC]
end ExP
end Go.Proofs.YtfodbfbljeeojaaGreatDoor
namespace Go.Proofs.YtfodbfbljeeojaaGreatDoor
open Go.RowKit
open Sym
attribute [local irreducible] Calls Sym.AggEq ExP.nd ExP.dig
theorem u32Info : (Tryz.prog.info? 97).map (fun i => (i.zero, i.size, i.bytes)) = some (some (.int .u32 0), 1, 4) := by kernel_rfl
set_option maxRecDepth 100000 in
theorem one_any (a : Option Addr) (cap x : Nat) (w : World) (hl : ExP.nd 1000000000 x ≤ 100000000) (hs : SlAt a (nv .u32 1000000000 x) w) : Calls Tryz.prog 88 #[.slice a (ExP.nd 1000000000 x) cap] w fun e w' => e = .returned (.bool (decide (x = 1))) ∧ Below w.heap.size w w' := by
  have h1 := ExP.one_iff (b := 1000000000) (x := x) (by omega)
  refine enter env_ok Tryz.func88 rfl Tryz.results88 Tryz.ntmps88 [] [] [.any (.slice a (ExP.nd 1000000000 x) cap)] ⟨rfl, trivial⟩ (Nat.le_of_ble_eq_true rfl) w _ 1000 ?_
  by_cases h : ExP.nd 1000000000 x = 1
  · obtain ⟨ad, rfl⟩ := SlAt.some hs (nv_ne (by omega))
    have hc := sl_read hs (i := 0) (nv_get (by omega))
    generalize ExP.nd 1000000000 x = n at *
    generalize ExP.dig 1000000000 0 x = dd at *
    repeat' (first | ((with_reducible first | show wpS _ _ _ _ | show putD _ _ _ _ | show putW _ _ _ _ | show splitG _ _ _ | show wpQ _ _ _ _ _ _ | show wpD _ _ _ _ _ _ _ | show wpX _ _ _ _ _ _ _ | show expX _ _ _ _ _ _ | show stepX _ _ _ _ | show keepR _ _ _ | show wpY _ _ _ _); conv => whnf) | ((with_reducible show RetN _ _ _); refine retB fun β => ?_) | ((with_reducible show _ ∧ _); first | (apply And.intro; (· intro h; exfalso; first | omega | (revert h; decide)); intro _) | (apply And.intro; rotate_left; (· intro h; exfalso; first | omega | (revert h; decide)); intro _) | (refine ⟨fun _ => ?_, fun _ => ?_⟩) | (apply And.intro; · kernel_rfl) | (apply And.intro; · (show inK _ _; unfold inK; omega)) | (apply And.intro; · (show (_ : Int) ≤ 9223372036854775807; (try simp only [List.length_append, List.length_drop, List.length_take, List.length_cons, List.length_nil]); omega))) | ((with_reducible show AllBe _); refine allBe fun βe => ?_; conv => whnf) | ((with_reducible show bothX _ _); refine bothI ?_ ?_; conv => whnf) | (with_reducible exact trivial) | ((with_reducible show CallN _ _ _ _ _ _ _ _); refine call_of env_ok rfl 1000 ?_) | ((with_reducible show XopN _ _ _ _ _ _); refine xop_of env_ok rfl 1000 ?_) | ((with_reducible show CallX _ _ _ _ _ _); first | fail) | ((with_reducible show OpX _ _ _ _); first | fail) | ((with_reducible show ∃ _ : SV, _); first | (refine ⟨_, ?ok, x_len Tryz.underlying67, ?_⟩; (case ok => exact fun _ _ => trivial)) | (refine ⟨_, ?ok, x_index (j := 0) (by omega) Tryz.underlying67 (fun w => Tryz.sizeOf97 w) (by omega), ?_⟩; (case ok => exact fun _ _ => rfl)) | (refine ⟨.int .u32 (dd : Nat), fun _ _ => trivial, x_load1 (fun w => Tryz.isAgg97 w) (fun w' hb β => by rw [Nat.zero_mul]; exact hc w' hb), ?_⟩)) | ((with_reducible show ∃ _, _); first | fail))
    show Value.bool (decide _) = _
    congr 1
    exact decide_eq_decide.2 (by omega)
  · generalize ExP.nd 1000000000 x = n at *
    repeat' (first | ((with_reducible first | show wpS _ _ _ _ | show putD _ _ _ _ | show putW _ _ _ _ | show splitG _ _ _ | show wpQ _ _ _ _ _ _ | show wpD _ _ _ _ _ _ _ | show wpX _ _ _ _ _ _ _ | show expX _ _ _ _ _ _ | show stepX _ _ _ _ | show keepR _ _ _ | show wpY _ _ _ _); conv => whnf) | ((with_reducible show RetN _ _ _); refine retB fun β => ?_) | ((with_reducible show _ ∧ _); first | (apply And.intro; (· intro h; exfalso; first | omega | (revert h; decide)); intro _) | (apply And.intro; rotate_left; (· intro h; exfalso; first | omega | (revert h; decide)); intro _) | (refine ⟨fun _ => ?_, fun _ => ?_⟩) | (apply And.intro; · kernel_rfl) | (apply And.intro; · (show inK _ _; unfold inK; omega)) | (apply And.intro; · (show (_ : Int) ≤ 9223372036854775807; (try simp only [List.length_append, List.length_drop, List.length_take, List.length_cons, List.length_nil]); omega))) | ((with_reducible show AllBe _); refine allBe fun βe => ?_; conv => whnf) | ((with_reducible show bothX _ _); refine bothI ?_ ?_; conv => whnf) | (with_reducible exact trivial) | ((with_reducible show CallN _ _ _ _ _ _ _ _); refine call_of env_ok rfl 1000 ?_) | ((with_reducible show XopN _ _ _ _ _ _); refine xop_of env_ok rfl 1000 ?_) | ((with_reducible show CallX _ _ _ _ _ _); first | fail) | ((with_reducible show OpX _ _ _ _); first | fail) | ((with_reducible show ∃ _ : SV, _); first | (refine ⟨_, ?ok, x_len Tryz.underlying67, ?_⟩; (case ok => exact fun _ _ => trivial))) | ((with_reducible show ∃ _, _); first | fail))
    show Value.bool false = _
    congr 1
    exact (decide_eq_false (by omega)).symm
set_option maxRecDepth 100000 in
theorem compare_any (a b : Option Addr) (ca cb x y : Nat) (w : World) (hx : ExP.nd 1000000000 x ≤ 100000000) (hy : ExP.nd 1000000000 y ≤ 100000000) (hs : SlAt a (nv .u32 1000000000 x) w) (ht : SlAt b (nv .u32 1000000000 y) w) :
    Calls Tryz.prog 94 #[.slice a (ExP.nd 1000000000 x) ca, .slice b (ExP.nd 1000000000 y) cb] w fun e w' => e = .returned (.int .i64 (ExP.cmpN 1000000000 x y)) ∧ Below w.heap.size w w' := by
  refine enter env_ok Tryz.func94 rfl Tryz.results94 Tryz.ntmps94 [] [] [.any (.slice a (ExP.nd 1000000000 x) ca), .any (.slice b (ExP.nd 1000000000 y) cb)] ⟨rfl, rfl, trivial⟩ (Nat.le_of_ble_eq_true rfl) w _ 1000 ?_
  by_cases hn : ExP.nd 1000000000 x = ExP.nd 1000000000 y
  · have hxp := ExP.nd_lt (b := 1000000000) (by omega) x
    have hyp := ExP.nd_lt (b := 1000000000) (by omega) y
    have h0 : x / 1000000000 ^ ExP.nd 1000000000 x = y / 1000000000 ^ ExP.nd 1000000000 x := by rw [Nat.div_eq_of_lt hxp, hn, Nat.div_eq_of_lt hyp]
    have htop := fun j => ExP.cmp_top (b := 1000000000) (x := x) (y := y) (j := j) (by omega) hn
    have hnext := fun j => ExP.cmp_next (b := 1000000000) (x := x) (y := y) (i := j) (by omega)
    have hcs := ExP.cmp_same (b := 1000000000) (x := x) (y := y)
    clear hxp hyp
    have hgx := fun i (h : i < ExP.nd 1000000000 x) => nv_get (k := .u32) h
    have hgy := fun i (h : i < ExP.nd 1000000000 y) => nv_get (k := .u32) h
    have hnx := nv_ne (k := .u32) (b := 1000000000) (x := x)
    have hny := nv_ne (k := .u32) (b := 1000000000) (x := y)
    rw [← hn] at hgy hny ⊢
    generalize ExP.nd 1000000000 x = n at *
    generalize ExP.cmpN 1000000000 x y = cv at *
    repeat' (first | ((with_reducible first | show wpS _ _ _ _ | show putD _ _ _ _ | show putW _ _ _ _ | show splitG _ _ _ | show wpQ _ _ _ _ _ _ | show wpD _ _ _ _ _ _ _ | show wpX _ _ _ _ _ _ _ | show expX _ _ _ _ _ _ | show stepX _ _ _ _ | show keepR _ _ _ | show wpY _ _ _ _); conv => whnf) | ((with_reducible show RetN _ _ _); refine retB fun β => ?_) | ((with_reducible show _ ∧ _); first | (apply And.intro; (· intro h; exfalso; first | omega | (revert h; decide)); intro _) | (apply And.intro; rotate_left; (· intro h; exfalso; first | omega | (revert h; decide)); intro _) | (refine ⟨fun _ => ?_, fun _ => ?_⟩) | (apply And.intro; · kernel_rfl) | (apply And.intro; · (show inK _ _; unfold inK; omega)) | (apply And.intro; · (show (_ : Int) ≤ 9223372036854775807; (try simp only [List.length_append, List.length_drop, List.length_take, List.length_cons, List.length_nil]); omega))) | ((with_reducible show AllBe _); refine allBe fun βe => ?_; conv => whnf) | ((with_reducible show bothX _ _); refine bothI ?_ ?_; conv => whnf) | (with_reducible exact trivial) | ((with_reducible show CallN _ _ _ _ _ _ _ _); refine call_of env_ok rfl 1000 ?_) | ((with_reducible show XopN _ _ _ _ _ _); refine xop_of env_ok rfl 1000 ?_) | ((with_reducible show CallX _ _ _ _ _ _); first | fail) | ((with_reducible show OpX _ _ _ _); first | fail) | ((with_reducible show ∃ _ : SV, _); first | (refine ⟨_, ?ok, x_len Tryz.underlying67, ?_⟩; (case ok => exact fun _ _ => trivial))) | ((with_reducible show ∃ _, _); first | fail))
    refine loop env_ok rfl (T := {j : Nat // j ≤ n ∧ x / 1000000000 ^ j = y / 1000000000 ^ j}) (fun t => ⟨[(0, .any (.slice a n ca)), (1, .any (.slice b n cb)), (5, .int .i64 ((t.1 : Nat) - 1 : Int))], [], 0, 41⟩) (fun t => t.1) ⟨n, Nat.le_refl _, h0⟩ 1000 [] [] (fun _ => Nat.zero_le _) (by ((with_reducible show wk _ _); repeat' (first | exact trivial | exact eqSV_refl _ | (refine eqI ?_) | (refine eqS ?_) | (with_reducible exact rfl) | apply And.intro | exact Nat.zero_lt_one | exact Nat.le_of_ble_eq_true rfl | (with_reducible assumption) | ((show (_ : Int) = _); (try dsimp only); omega) | ((show eqSV _ _); simp [eqSV, isB, bval, *]; done) | rfl))) (fun t I hI => ?_)
    obtain ⟨j, hj, hxy⟩ := t
    dsimp only
    by_cases hj0 : j = 0
    · subst hj0
      rw [hcs hxy]
      repeat' (first | ((with_reducible first | show wpS _ _ _ _ | show putD _ _ _ _ | show putW _ _ _ _ | show splitG _ _ _ | show wpQ _ _ _ _ _ _ | show wpD _ _ _ _ _ _ _ | show wpX _ _ _ _ _ _ _ | show expX _ _ _ _ _ _ | show stepX _ _ _ _ | show keepR _ _ _ | show wpY _ _ _ _); conv => whnf) | ((with_reducible show RetN _ _ _); refine retB fun β => ?_) | ((with_reducible show _ ∧ _); first | (apply And.intro; (· intro h; exfalso; first | omega | (revert h; decide)); intro _) | (apply And.intro; rotate_left; (· intro h; exfalso; first | omega | (revert h; decide)); intro _) | (refine ⟨fun _ => ?_, fun _ => ?_⟩) | (apply And.intro; · kernel_rfl) | (apply And.intro; · (show inK _ _; unfold inK; omega)) | (apply And.intro; · (show (_ : Int) ≤ 9223372036854775807; (try simp only [List.length_append, List.length_drop, List.length_take, List.length_cons, List.length_nil]); omega))) | ((with_reducible show AllBe _); refine allBe fun βe => ?_; conv => whnf) | ((with_reducible show bothX _ _); refine bothI ?_ ?_; conv => whnf) | (with_reducible exact trivial) | ((with_reducible show CallN _ _ _ _ _ _ _ _); refine call_of env_ok rfl 1000 ?_) | ((with_reducible show XopN _ _ _ _ _ _); refine xop_of env_ok rfl 1000 ?_) | ((with_reducible show CallX _ _ _ _ _ _); first | fail) | ((with_reducible show OpX _ _ _ _); first | fail) | ((with_reducible show ∃ _ : SV, _); first | fail) | ((with_reducible show ∃ _, _); first | fail))
      all_goals rfl
    · obtain ⟨i, rfl⟩ : ∃ i, j = i + 1 := ⟨j - 1, by omega⟩
      obtain ⟨ad, rfl⟩ := SlAt.some hs (hnx (by omega))
      obtain ⟨bd, rfl⟩ := SlAt.some ht (hny (by omega))
      have h1 := sl_read hs (hgx i (by omega))
      have h2 := sl_read ht (hgy i (by omega))
      have htop := htop i hxy
      have hnext := hnext i hxy
      generalize ExP.dig 1000000000 i x = dx at *
      generalize ExP.dig 1000000000 i y = dy at *
      repeat' (first | ((with_reducible first | show wpS _ _ _ _ | show putD _ _ _ _ | show putW _ _ _ _ | show splitG _ _ _ | show wpQ _ _ _ _ _ _ | show wpD _ _ _ _ _ _ _ | show wpX _ _ _ _ _ _ _ | show expX _ _ _ _ _ _ | show stepX _ _ _ _ | show keepR _ _ _ | show wpY _ _ _ _); conv => whnf) | ((with_reducible show RetN _ _ _); refine retB fun β => ?_) | ((with_reducible show _ ∧ _); first | (apply And.intro; (· intro h; exfalso; first | omega | (revert h; decide)); intro _) | (apply And.intro; rotate_left; (· intro h; exfalso; first | omega | (revert h; decide)); intro _) | (refine ⟨fun _ => ?_, fun _ => ?_⟩) | (apply And.intro; · kernel_rfl) | (apply And.intro; · (show inK _ _; unfold inK; omega)) | (apply And.intro; · (show (_ : Int) ≤ 9223372036854775807; (try simp only [List.length_append, List.length_drop, List.length_take, List.length_cons, List.length_nil]); omega))) | ((with_reducible show AllBe _); refine allBe fun βe => ?_; conv => whnf) | ((with_reducible show bothX _ _); refine bothI ?_ ?_; conv => whnf) | (with_reducible exact trivial) | ((with_reducible show CallN _ _ _ _ _ _ _ _); refine call_of env_ok rfl 1000 ?_) | ((with_reducible show XopN _ _ _ _ _ _); refine xop_of env_ok rfl 1000 ?_) | ((with_reducible show CallX _ _ _ _ _ _); first | fail) | ((with_reducible show OpX _ _ _ _); first | fail) | ((with_reducible show ∃ _ : SV, _); first | (refine ⟨_, ?ok, x_len Tryz.underlying67, ?_⟩; (case ok => exact fun _ _ => trivial)) | (refine ⟨_, ?ok, x_index (j := i) (by omega) Tryz.underlying67 (fun w => Tryz.sizeOf97 w) (by omega), ?_⟩; (case ok => exact fun _ _ => rfl)) | (refine ⟨.int .u32 (dx : Nat), fun _ _ => trivial, x_load1 (fun w => Tryz.isAgg97 w) (fun w' hb β => by rw [Nat.mul_one]; exact h1 w' hb), ?_⟩) | (refine ⟨.int .u32 (dy : Nat), fun _ _ => trivial, x_load1 (fun w => Tryz.isAgg97 w) (fun w' hb β => by rw [Nat.mul_one]; exact h2 w' hb), ?_⟩)) | ((with_reducible show ∃ _, _); first | fail))
      · rw [htop (by omega), if_pos (by omega)]; rfl
      · rw [htop (by omega), if_neg (by omega)]; rfl
      · refine hI _ ⟨i, by omega, hnext (by omega)⟩ (by dsimp only; omega) (by ((with_reducible show wk _ _); repeat' (first | exact trivial | exact eqSV_refl _ | (refine eqI ?_) | (refine eqS ?_) | (with_reducible exact rfl) | apply And.intro | exact Nat.zero_lt_one | exact Nat.le_of_ble_eq_true rfl | (with_reducible assumption) | ((show (_ : Int) = _); (try dsimp only); omega) | ((show eqSV _ _); simp [eqSV, isB, bval, *]; done) | rfl)))
  · have hcv : ExP.cmpN 1000000000 x y = (ExP.nd 1000000000 x : Int) - ExP.nd 1000000000 y := by unfold ExP.cmpN; rw [if_pos hn]
    rw [hcv]
    generalize ExP.nd 1000000000 x = n at *
    generalize ExP.nd 1000000000 y = m at *
    repeat' (first | ((with_reducible first | show wpS _ _ _ _ | show putD _ _ _ _ | show putW _ _ _ _ | show splitG _ _ _ | show wpQ _ _ _ _ _ _ | show wpD _ _ _ _ _ _ _ | show wpX _ _ _ _ _ _ _ | show expX _ _ _ _ _ _ | show stepX _ _ _ _ | show keepR _ _ _ | show wpY _ _ _ _); conv => whnf) | ((with_reducible show RetN _ _ _); refine retB fun β => ?_) | ((with_reducible show _ ∧ _); first | (apply And.intro; (· intro h; exfalso; first | omega | (revert h; decide)); intro _) | (apply And.intro; rotate_left; (· intro h; exfalso; first | omega | (revert h; decide)); intro _) | (refine ⟨fun _ => ?_, fun _ => ?_⟩) | (apply And.intro; · kernel_rfl) | (apply And.intro; · (show inK _ _; unfold inK; omega)) | (apply And.intro; · (show (_ : Int) ≤ 9223372036854775807; (try simp only [List.length_append, List.length_drop, List.length_take, List.length_cons, List.length_nil]); omega))) | ((with_reducible show AllBe _); refine allBe fun βe => ?_; conv => whnf) | ((with_reducible show bothX _ _); refine bothI ?_ ?_; conv => whnf) | (with_reducible exact trivial) | ((with_reducible show CallN _ _ _ _ _ _ _ _); refine call_of env_ok rfl 1000 ?_) | ((with_reducible show XopN _ _ _ _ _ _); refine xop_of env_ok rfl 1000 ?_) | ((with_reducible show CallX _ _ _ _ _ _); first | fail) | ((with_reducible show OpX _ _ _ _); first | fail) | ((with_reducible show ∃ _ : SV, _); first | (refine ⟨_, ?ok, x_len Tryz.underlying67, ?_⟩; (case ok => exact fun _ _ => trivial))) | ((with_reducible show ∃ _, _); first | fail))
    all_goals rfl
end Go.Proofs.YtfodbfbljeeojaaGreatDoor
namespace Go.Proofs.YtfodbfbljeeojaaGreatDoor
open Go.RowKit
open Sym
attribute [local irreducible] Calls Sym.AggEq ExP.nd ExP.dig
structure PlT where
  i : Nat
  c : Nat
  S : Nat
  g : Nat
  cap : Nat
set_option maxRecDepth 100000 in
set_option maxHeartbeats 2000000 in
theorem plus_any (a b : Option Addr) (ca cb x y : Nat) (w : World) (hx : ExP.nd 1000000000 x ≤ 100000000) (hy : ExP.nd 1000000000 y ≤ 100000000) (hs : SlAt a (nv .u32 1000000000 x) w) (ht : SlAt b (nv .u32 1000000000 y) w) :
    Calls Tryz.prog 84 #[.slice a (ExP.nd 1000000000 x) ca, .slice b (ExP.nd 1000000000 y) cb] w (NatOut .u32 1000000000 (x + y) w) := by
  obtain ⟨i0, hi, hz0, hz1, hz2⟩ := info_parts u32Info
  have hu := Tryz.underlying67
  have hsz := fun w => Tryz.sizeOf97 w
  have hzv := fun w => Tryz.zeroValue97 w
  have hgx := fun i (h : i < ExP.nd 1000000000 x) => nv_get (k := .u32) h
  have hgy := fun i (h : i < ExP.nd 1000000000 y) => nv_get (k := .u32) h
  have hnx := nv_ne (k := .u32) (b := 1000000000) (x := x)
  have hny := nv_ne (k := .u32) (b := 1000000000) (x := y)
  have hbx := fun i => ExP.dig_big (b := 1000000000) (i := i) (x := x) (by omega)
  have hby := fun i => ExP.dig_big (b := 1000000000) (i := i) (x := y) (by omega)
  have hnext := fun {i c S} => ExP.plus_next (b := 1000000000) (x := x) (y := y) (i := i) (c := c) (S := S) (by omega)
  have hend := fun {i S} => ExP.plus_end (b := 1000000000) (x := x) (y := y) (i := i) (S := S) (by omega)
  have hcar := fun {i c S} => ExP.plus_carry (b := 1000000000) (x := x) (y := y) (i := i) (c := c) (S := S) (by omega)
  have hov := fun {i c S} => ExP.plus_over (b := 1000000000) (x := x) (y := y) (i := i) (c := c) (S := S) (by omega)
  have hdx := fun i => ExP.dig_lt (b := 1000000000) (by omega) i x
  have hdy := fun i => ExP.dig_lt (b := 1000000000) (by omega) i y
  refine enter env_ok Tryz.func84 rfl Tryz.results84 Tryz.ntmps84 [] [] [.any (.slice a (ExP.nd 1000000000 x) ca), .any (.slice b (ExP.nd 1000000000 y) cb)] ⟨rfl, rfl, trivial⟩ (Nat.le_of_ble_eq_true rfl) w _ 1000 ?_
  generalize ExP.nd 1000000000 x = n at *
  generalize ExP.nd 1000000000 y = m at *
  repeat' (first | ((with_reducible first | show wpS _ _ _ _ | show putD _ _ _ _ | show putW _ _ _ _ | show splitG _ _ _ | show wpQ _ _ _ _ _ _ | show wpD _ _ _ _ _ _ _ | show wpX _ _ _ _ _ _ _ | show expX _ _ _ _ _ _ | show stepX _ _ _ _ | show keepR _ _ _ | show wpY _ _ _ _); conv => whnf) | ((with_reducible show RetN _ _ _); refine retB fun β => ?_) | ((with_reducible show _ ∧ _); first | (apply And.intro; (· intro h; exfalso; first | omega | (revert h; decide)); intro _) | (apply And.intro; rotate_left; (· intro h; exfalso; first | omega | (revert h; decide)); intro _) | (refine ⟨fun _ => ?_, fun _ => ?_⟩) | (apply And.intro; · kernel_rfl) | (apply And.intro; · (show inK _ _; unfold inK; omega)) | (apply And.intro; · (show (_ : Int) ≤ 9223372036854775807; (try simp only [List.length_append, List.length_drop, List.length_take, List.length_cons, List.length_nil]); omega))) | ((with_reducible show AllBe _); refine allBe fun βe => ?_; conv => whnf) | ((with_reducible show bothX _ _); refine bothI ?_ ?_; conv => whnf) | (with_reducible exact trivial) | ((with_reducible show CallN _ _ _ _ _ _ _ _); refine call_of env_ok rfl 1000 ?_) | ((with_reducible show XopN _ _ _ _ _ _); refine xop_of env_ok rfl 1000 ?_) | ((with_reducible show CallX _ _ _ _ _ _); first | fail) | ((with_reducible show OpX _ _ _ _); first | (refine opx_make0 (m := max n m + 1) rfl (by omega) rfl rfl hu hi hz0 hz1 rfl (by rw [hz2]; omega) (by unfold maxLen; omega) (fun g => ?_))) | ((with_reducible show ∃ _ : SV, _); first | (refine ⟨_, ?ok, x_len Tryz.underlying67, ?_⟩; (case ok => exact fun _ _ => trivial))) | ((with_reducible show ∃ _, _); first | fail))
  refine loop env_ok rfl (T := {t : PlT // ExP.PlusI 1000000000 x y t.i t.c t.S ∧ t.i ≤ max n m + 1}) (fun t => ⟨[(0, .any (.slice a n ca)), (1, .any (.slice b m cb)), (5, .any (.slice (some ⟨t.1.g, 0, none⟩) t.1.i t.1.cap)), (6, .int .u32 (t.1.c : Nat)), (7, .int .i64 (t.1.i : Nat))], [(0, true, .blob (OwnS 97 1 t.1.g t.1.i t.1.cap (valsK .u32 (ExP.dgN 1000000000 t.1.i t.1.S))))], 1, 61⟩) (fun t => max n m + 2 - t.1.i) ⟨⟨0, 0, 0, g, max n m + 1⟩, ⟨by simp [Nat.mod_one], by simp, .inl rfl⟩, Nat.zero_le _⟩ 1000 [] [] (fun _ => by exact Nat.zero_le _) (by ((with_reducible show wk _ _); repeat' (first | exact trivial | exact eqSV_refl _ | (refine eqI ?_) | (refine eqS ?_) | (with_reducible exact rfl) | apply And.intro | exact Nat.zero_lt_one | exact Nat.le_of_ble_eq_true rfl | (with_reducible assumption) | ((show (_ : Int) = _); (try dsimp only); omega) | ((show eqSV _ _); simp [eqSV, isB, bval, *]; done) | rfl)); all_goals exact fun b x h => h) (fun t I hI => ?_)
  obtain ⟨⟨i, c, S, g, cap⟩, hP, hib⟩ := t
  dsimp only at hP hib ⊢
  have hc := hcar hP
  have hS := hP.lt
  have hN := hnext hP
  have hE := fun (h : c = 0) => by subst h; exact hend hP
  have hdx := hdx i
  have hdy := hdy i
  have hrow := fun (v : Int) (d : Nat) (hd : d < 1000000000) (hv : v = (d : Int)) => ExP.row_snoc (k := .u32) (b := 1000000000) (i := i) (S := S) (by omega) hS hd hv
  have hgx := hgx i
  have hgy := hgy i
  have hbx := hbx i
  have hby := hby i
  have htop : i ≤ max n m ∨ c = 0 := by
    rcases Nat.lt_or_ge (max n m) i with h | h
    · exact .inr (hov hP (by omega) (by omega))
    · exact .inl h
  clear hnext hend hcar hov
  generalize ExP.dig 1000000000 i x = dx at *
  generalize ExP.dig 1000000000 i y = dy at *
  by_cases h1 : i < n
  · obtain ⟨ad, rfl⟩ := SlAt.some hs (hnx (by omega))
    have r1 := sl_read hs (hgx h1)
    by_cases h2 : i < m
    · obtain ⟨bd, rfl⟩ := SlAt.some ht (hny (by omega))
      have r2 := sl_read ht (hgy h2)
      repeat' (first | ((with_reducible first | show wpS _ _ _ _ | show putD _ _ _ _ | show putW _ _ _ _ | show splitG _ _ _ | show wpQ _ _ _ _ _ _ | show wpD _ _ _ _ _ _ _ | show wpX _ _ _ _ _ _ _ | show expX _ _ _ _ _ _ | show stepX _ _ _ _ | show keepR _ _ _ | show wpY _ _ _ _); conv => whnf) | ((with_reducible show RetN _ _ _); refine retB fun β => ?_) | ((with_reducible show _ ∧ _); first | (apply And.intro; (· intro h; exfalso; first | omega | (revert h; decide)); intro _) | (apply And.intro; rotate_left; (· intro h; exfalso; first | omega | (revert h; decide)); intro _) | (refine ⟨fun _ => ?_, fun _ => ?_⟩) | (apply And.intro; · kernel_rfl) | (apply And.intro; · (show inK _ _; unfold inK; omega)) | (apply And.intro; · (show (_ : Int) ≤ 9223372036854775807; (try simp only [List.length_append, List.length_drop, List.length_take, List.length_cons, List.length_nil]); omega))) | ((with_reducible show AllBe _); refine allBe fun βe => ?_; conv => whnf) | ((with_reducible show bothX _ _); refine bothI ?_ ?_; conv => whnf) | (with_reducible exact trivial) | ((with_reducible show CallN _ _ _ _ _ _ _ _); refine call_of env_ok rfl 1000 ?_) | ((with_reducible show XopN _ _ _ _ _ _); refine xop_of env_ok rfl 1000 ?_) | ((with_reducible show CallX _ _ _ _ _ _); first | fail) | ((with_reducible show OpX _ _ _ _); first | (refine opx_build1 (sz := 1) rfl rfl rfl (xs := [.int .u32 (((c + dx + dy) % 1000000000 : Nat) : Int)]) (fun β => by simp [SV.dens, SV.den]) rfl (by omega) (by omega) hu hsz hzv (fun g1 => ?_)) | (refine opx_append (sz := 1) 0 1 rfl hu hi hz0 hz1 rfl (by omega) rfl rfl rfl rfl (by unfold maxLen; omega) (by rw [hz2]; omega) (by simp [Value.oneCell']) (by kernel_rfl) (Nat.zero_le _) (fun g2 cap2 => ?_))) | ((with_reducible show ∃ _ : SV, _); first | (refine ⟨_, ?ok, x_len Tryz.underlying67, ?_⟩; (case ok => exact fun _ _ => trivial)) | (refine ⟨_, ?ok, x_index (j := i) (by omega) Tryz.underlying67 (fun w => Tryz.sizeOf97 w) (by omega), ?_⟩; (case ok => exact fun _ _ => rfl)) | (refine ⟨.int .u32 (dx : Nat), fun _ _ => trivial, x_load1 (fun w => Tryz.isAgg97 w) (fun w' hb β => by rw [Nat.mul_one]; exact r1 w' hb), ?_⟩) | (refine ⟨.int .u32 (dy : Nat), fun _ _ => trivial, x_load1 (fun w => Tryz.isAgg97 w) (fun w' hb β => by rw [Nat.mul_one]; exact r2 w' hb), ?_⟩) | (refine ⟨_, ?ok, x_rem (by omega) (by omega), ?_⟩; (case ok => exact fun _ _ => trivial)) | (refine ⟨_, ?ok, x_quo (by omega) (by omega) (by simp only [inK]; omega), ?_⟩; (case ok => exact fun _ _ => trivial))) | ((with_reducible show ∃ _, _); first | fail))
      refine hI _ ⟨⟨i + 1, (c + dx + dy) / 1000000000, S + (c + dx + dy) % 1000000000 * 1000000000 ^ i, g2, cap2⟩, hN (.inl h1), by dsimp only; omega⟩ (by dsimp only; omega) (by ((with_reducible show wk _ _); repeat' (first | exact trivial | exact eqSV_refl _ | (refine eqI ?_) | (refine eqS ?_) | (with_reducible exact rfl) | apply And.intro | exact Nat.zero_lt_one | exact Nat.le_of_ble_eq_true rfl | (with_reducible assumption) | ((show (_ : Int) = _); (try dsimp only); omega) | ((show eqSV _ _); simp [eqSV, isB, bval, *]; done) | rfl)); all_goals (rw [hrow _ ((c + dx + dy) % 1000000000) (by omega) (by rfl)]; exact fun b x h => h))
    · have hy0 := hby (by omega)
      repeat' (first | ((with_reducible first | show wpS _ _ _ _ | show putD _ _ _ _ | show putW _ _ _ _ | show splitG _ _ _ | show wpQ _ _ _ _ _ _ | show wpD _ _ _ _ _ _ _ | show wpX _ _ _ _ _ _ _ | show expX _ _ _ _ _ _ | show stepX _ _ _ _ | show keepR _ _ _ | show wpY _ _ _ _); conv => whnf) | ((with_reducible show RetN _ _ _); refine retB fun β => ?_) | ((with_reducible show _ ∧ _); first | (apply And.intro; (· intro h; exfalso; first | omega | (revert h; decide)); intro _) | (apply And.intro; rotate_left; (· intro h; exfalso; first | omega | (revert h; decide)); intro _) | (refine ⟨fun _ => ?_, fun _ => ?_⟩) | (apply And.intro; · kernel_rfl) | (apply And.intro; · (show inK _ _; unfold inK; omega)) | (apply And.intro; · (show (_ : Int) ≤ 9223372036854775807; (try simp only [List.length_append, List.length_drop, List.length_take, List.length_cons, List.length_nil]); omega))) | ((with_reducible show AllBe _); refine allBe fun βe => ?_; conv => whnf) | ((with_reducible show bothX _ _); refine bothI ?_ ?_; conv => whnf) | (with_reducible exact trivial) | ((with_reducible show CallN _ _ _ _ _ _ _ _); refine call_of env_ok rfl 1000 ?_) | ((with_reducible show XopN _ _ _ _ _ _); refine xop_of env_ok rfl 1000 ?_) | ((with_reducible show CallX _ _ _ _ _ _); first | fail) | ((with_reducible show OpX _ _ _ _); first | (refine opx_build1 (sz := 1) rfl rfl rfl (xs := [.int .u32 (((c + dx) % 1000000000 : Nat) : Int)]) (fun β => by simp [SV.dens, SV.den]) rfl (by omega) (by omega) hu hsz hzv (fun g1 => ?_)) | (refine opx_append (sz := 1) 0 1 rfl hu hi hz0 hz1 rfl (by omega) rfl rfl rfl rfl (by unfold maxLen; omega) (by rw [hz2]; omega) (by simp [Value.oneCell']) (by kernel_rfl) (Nat.zero_le _) (fun g2 cap2 => ?_))) | ((with_reducible show ∃ _ : SV, _); first | (refine ⟨_, ?ok, x_len Tryz.underlying67, ?_⟩; (case ok => exact fun _ _ => trivial)) | (refine ⟨_, ?ok, x_index (j := i) (by omega) Tryz.underlying67 (fun w => Tryz.sizeOf97 w) (by omega), ?_⟩; (case ok => exact fun _ _ => rfl)) | (refine ⟨.int .u32 (dx : Nat), fun _ _ => trivial, x_load1 (fun w => Tryz.isAgg97 w) (fun w' hb β => by rw [Nat.mul_one]; exact r1 w' hb), ?_⟩) | (refine ⟨_, ?ok, x_rem (by omega) (by omega), ?_⟩; (case ok => exact fun _ _ => trivial)) | (refine ⟨_, ?ok, x_quo (by omega) (by omega) (by simp only [inK]; omega), ?_⟩; (case ok => exact fun _ _ => trivial))) | ((with_reducible show ∃ _, _); first | fail))
      refine hI _ ⟨⟨i + 1, (c + dx + dy) / 1000000000, S + (c + dx + dy) % 1000000000 * 1000000000 ^ i, g2, cap2⟩, hN (.inl h1), by dsimp only; omega⟩ (by dsimp only; omega) (by ((with_reducible show wk _ _); repeat' (first | exact trivial | exact eqSV_refl _ | (refine eqI ?_) | (refine eqS ?_) | (with_reducible exact rfl) | apply And.intro | exact Nat.zero_lt_one | exact Nat.le_of_ble_eq_true rfl | (with_reducible assumption) | ((show (_ : Int) = _); (try dsimp only); omega) | ((show eqSV _ _); simp [eqSV, isB, bval, *]; done) | rfl)); all_goals (rw [hrow _ ((c + dx + dy) % 1000000000) (by omega) (by rw [hy0]; rfl)]; exact fun b x h => h))
  · have hx0 := hbx (by omega)
    by_cases h2 : i < m
    · obtain ⟨bd, rfl⟩ := SlAt.some ht (hny (by omega))
      have r2 := sl_read ht (hgy h2)
      repeat' (first | ((with_reducible first | show wpS _ _ _ _ | show putD _ _ _ _ | show putW _ _ _ _ | show splitG _ _ _ | show wpQ _ _ _ _ _ _ | show wpD _ _ _ _ _ _ _ | show wpX _ _ _ _ _ _ _ | show expX _ _ _ _ _ _ | show stepX _ _ _ _ | show keepR _ _ _ | show wpY _ _ _ _); conv => whnf) | ((with_reducible show RetN _ _ _); refine retB fun β => ?_) | ((with_reducible show _ ∧ _); first | (apply And.intro; (· intro h; exfalso; first | omega | (revert h; decide)); intro _) | (apply And.intro; rotate_left; (· intro h; exfalso; first | omega | (revert h; decide)); intro _) | (refine ⟨fun _ => ?_, fun _ => ?_⟩) | (apply And.intro; · kernel_rfl) | (apply And.intro; · (show inK _ _; unfold inK; omega)) | (apply And.intro; · (show (_ : Int) ≤ 9223372036854775807; (try simp only [List.length_append, List.length_drop, List.length_take, List.length_cons, List.length_nil]); omega))) | ((with_reducible show AllBe _); refine allBe fun βe => ?_; conv => whnf) | ((with_reducible show bothX _ _); refine bothI ?_ ?_; conv => whnf) | (with_reducible exact trivial) | ((with_reducible show CallN _ _ _ _ _ _ _ _); refine call_of env_ok rfl 1000 ?_) | ((with_reducible show XopN _ _ _ _ _ _); refine xop_of env_ok rfl 1000 ?_) | ((with_reducible show CallX _ _ _ _ _ _); first | fail) | ((with_reducible show OpX _ _ _ _); first | (refine opx_build1 (sz := 1) rfl rfl rfl (xs := [.int .u32 (((c + dy) % 1000000000 : Nat) : Int)]) (fun β => by simp [SV.dens, SV.den]) rfl (by omega) (by omega) hu hsz hzv (fun g1 => ?_)) | (refine opx_append (sz := 1) 0 1 rfl hu hi hz0 hz1 rfl (by omega) rfl rfl rfl rfl (by unfold maxLen; omega) (by rw [hz2]; omega) (by simp [Value.oneCell']) (by kernel_rfl) (Nat.zero_le _) (fun g2 cap2 => ?_))) | ((with_reducible show ∃ _ : SV, _); first | (refine ⟨_, ?ok, x_len Tryz.underlying67, ?_⟩; (case ok => exact fun _ _ => trivial)) | (refine ⟨_, ?ok, x_index (j := i) (by omega) Tryz.underlying67 (fun w => Tryz.sizeOf97 w) (by omega), ?_⟩; (case ok => exact fun _ _ => rfl)) | (refine ⟨.int .u32 (dy : Nat), fun _ _ => trivial, x_load1 (fun w => Tryz.isAgg97 w) (fun w' hb β => by rw [Nat.mul_one]; exact r2 w' hb), ?_⟩) | (refine ⟨_, ?ok, x_rem (by omega) (by omega), ?_⟩; (case ok => exact fun _ _ => trivial)) | (refine ⟨_, ?ok, x_quo (by omega) (by omega) (by simp only [inK]; omega), ?_⟩; (case ok => exact fun _ _ => trivial))) | ((with_reducible show ∃ _, _); first | fail))
      refine hI _ ⟨⟨i + 1, (c + dx + dy) / 1000000000, S + (c + dx + dy) % 1000000000 * 1000000000 ^ i, g2, cap2⟩, hN (.inr (.inl h2)), by dsimp only; omega⟩ (by dsimp only; omega) (by ((with_reducible show wk _ _); repeat' (first | exact trivial | exact eqSV_refl _ | (refine eqI ?_) | (refine eqS ?_) | (with_reducible exact rfl) | apply And.intro | exact Nat.zero_lt_one | exact Nat.le_of_ble_eq_true rfl | (with_reducible assumption) | ((show (_ : Int) = _); (try dsimp only); omega) | ((show eqSV _ _); simp [eqSV, isB, bval, *]; done) | rfl)); all_goals (rw [hrow _ ((c + dx + dy) % 1000000000) (by omega) (by rw [hx0]; omega)]; exact fun b x h => h))
    · have hy0 := hby (by omega)
      by_cases h3 : 0 < c
      · repeat' (first | ((with_reducible first | show wpS _ _ _ _ | show putD _ _ _ _ | show putW _ _ _ _ | show splitG _ _ _ | show wpQ _ _ _ _ _ _ | show wpD _ _ _ _ _ _ _ | show wpX _ _ _ _ _ _ _ | show expX _ _ _ _ _ _ | show stepX _ _ _ _ | show keepR _ _ _ | show wpY _ _ _ _); conv => whnf) | ((with_reducible show RetN _ _ _); refine retB fun β => ?_) | ((with_reducible show _ ∧ _); first | (apply And.intro; (· intro h; exfalso; first | omega | (revert h; decide)); intro _) | (apply And.intro; rotate_left; (· intro h; exfalso; first | omega | (revert h; decide)); intro _) | (refine ⟨fun _ => ?_, fun _ => ?_⟩) | (apply And.intro; · kernel_rfl) | (apply And.intro; · (show inK _ _; unfold inK; omega)) | (apply And.intro; · (show (_ : Int) ≤ 9223372036854775807; (try simp only [List.length_append, List.length_drop, List.length_take, List.length_cons, List.length_nil]); omega))) | ((with_reducible show AllBe _); refine allBe fun βe => ?_; conv => whnf) | ((with_reducible show bothX _ _); refine bothI ?_ ?_; conv => whnf) | (with_reducible exact trivial) | ((with_reducible show CallN _ _ _ _ _ _ _ _); refine call_of env_ok rfl 1000 ?_) | ((with_reducible show XopN _ _ _ _ _ _); refine xop_of env_ok rfl 1000 ?_) | ((with_reducible show CallX _ _ _ _ _ _); first | fail) | ((with_reducible show OpX _ _ _ _); first | (refine opx_build1 (sz := 1) rfl rfl rfl (xs := [.int .u32 (((c) % 1000000000 : Nat) : Int)]) (fun β => by simp [SV.dens, SV.den]) rfl (by omega) (by omega) hu hsz hzv (fun g1 => ?_)) | (refine opx_append (sz := 1) 0 1 rfl hu hi hz0 hz1 rfl (by omega) rfl rfl rfl rfl (by unfold maxLen; omega) (by rw [hz2]; omega) (by simp [Value.oneCell']) (by kernel_rfl) (Nat.zero_le _) (fun g2 cap2 => ?_))) | ((with_reducible show ∃ _ : SV, _); first | (refine ⟨_, ?ok, x_len Tryz.underlying67, ?_⟩; (case ok => exact fun _ _ => trivial)) | (refine ⟨_, ?ok, x_index (j := i) (by omega) Tryz.underlying67 (fun w => Tryz.sizeOf97 w) (by omega), ?_⟩; (case ok => exact fun _ _ => rfl)) | (refine ⟨_, ?ok, x_rem (by omega) (by omega), ?_⟩; (case ok => exact fun _ _ => trivial)) | (refine ⟨_, ?ok, x_quo (by omega) (by omega) (by simp only [inK]; omega), ?_⟩; (case ok => exact fun _ _ => trivial))) | ((with_reducible show ∃ _, _); first | fail))
        refine hI _ ⟨⟨i + 1, (c + dx + dy) / 1000000000, S + (c + dx + dy) % 1000000000 * 1000000000 ^ i, g2, cap2⟩, hN (.inr (.inr h3)), by dsimp only; omega⟩ (by dsimp only; omega) (by ((with_reducible show wk _ _); repeat' (first | exact trivial | exact eqSV_refl _ | (refine eqI ?_) | (refine eqS ?_) | (with_reducible exact rfl) | apply And.intro | exact Nat.zero_lt_one | exact Nat.le_of_ble_eq_true rfl | (with_reducible assumption) | ((show (_ : Int) = _); (try dsimp only); omega) | ((show eqSV _ _); simp [eqSV, isB, bval, *]; done) | rfl)); all_goals (rw [hrow _ ((c + dx + dy) % 1000000000) (by omega) (by rw [hx0, hy0]; omega)]; exact fun b x h => h))
      · obtain ⟨rfl, rfl⟩ := hE (by omega) (by omega) (by omega)
        repeat' (first | ((with_reducible first | show wpS _ _ _ _ | show putD _ _ _ _ | show putW _ _ _ _ | show splitG _ _ _ | show wpQ _ _ _ _ _ _ | show wpD _ _ _ _ _ _ _ | show wpX _ _ _ _ _ _ _ | show expX _ _ _ _ _ _ | show stepX _ _ _ _ | show keepR _ _ _ | show wpY _ _ _ _); conv => whnf) | ((with_reducible show RetN _ _ _); refine retB fun β => ?_) | ((with_reducible show _ ∧ _); first | (apply And.intro; (· intro h; exfalso; first | omega | (revert h; decide)); intro _) | (apply And.intro; rotate_left; (· intro h; exfalso; first | omega | (revert h; decide)); intro _) | (refine ⟨fun _ => ?_, fun _ => ?_⟩) | (apply And.intro; · kernel_rfl) | (apply And.intro; · (show inK _ _; unfold inK; omega)) | (apply And.intro; · (show (_ : Int) ≤ 9223372036854775807; (try simp only [List.length_append, List.length_drop, List.length_take, List.length_cons, List.length_nil]); omega))) | ((with_reducible show AllBe _); refine allBe fun βe => ?_; conv => whnf) | ((with_reducible show bothX _ _); refine bothI ?_ ?_; conv => whnf) | (with_reducible exact trivial) | ((with_reducible show CallN _ _ _ _ _ _ _ _); refine call_of env_ok rfl 1000 ?_) | ((with_reducible show XopN _ _ _ _ _ _); refine xop_of env_ok rfl 1000 ?_) | ((with_reducible show CallX _ _ _ _ _ _); first | fail) | ((with_reducible show OpX _ _ _ _); first | fail) | ((with_reducible show ∃ _ : SV, _); first | (refine ⟨_, ?ok, x_len Tryz.underlying67, ?_⟩; (case ok => exact fun _ _ => trivial))) | ((with_reducible show ∃ _, _); first | fail))
        refine ret fun β w' hm => ?_
        obtain ⟨q1, q2, q3⟩ := Mem.own hm 0 rfl
        exact ⟨_, cap, rfl, q1, fresh_own q2 rfl, (fun h => by cases h), q3, hm.below⟩
end Go.Proofs.YtfodbfbljeeojaaGreatDoor
