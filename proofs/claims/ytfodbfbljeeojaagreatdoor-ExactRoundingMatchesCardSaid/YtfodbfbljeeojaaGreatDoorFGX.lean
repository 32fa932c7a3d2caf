/- Whole numbers read by strconv.Atoi, of any length. A walk that reckons: a string turned into bytes. Whole numbers: the reference's trimSign and Int. -/
import Derived.Test.YtfodbfbljeeojaaGreatDoorFGW
import Derived.Test.YtfodbfbljeeojaaGreatDoorFGI
import Derived.Test.YtfodbfbljeeojaaGreatDoorFGV
import Derived.Lib.ConvBytes
import Derived.Lib.SmallJoins
import Derived.Test.YtfodbfbljeeojaaGreatDoorFGR
set_option linter.unusedSimpArgs false
set_option linter.unusedVariables false
namespace Go.Proofs.YtfodbfbljeeojaaGreatDoor
open Go.RowKit
open Sym
attribute [local irreducible] Calls Sym.AggEq ExP.nd ExP.dig ExP.upd
namespace ExP
theorem parse_val : ∀ (s : Str) (acc : Nat), s.all digC = true → acc < 18446744073709551616 → Lib.parseUint10 acc s = if valF acc s < 18446744073709551616 then .ok (valF acc s) else .range
  | [], acc, _, ha => by rw [valF_nil, if_pos ha]; rfl
  | c :: r, acc, h, ha => by
    simp only [List.all_cons, Bool.and_eq_true] at h
    have hc := digC_nat.1 h.1
    have hle : acc * 10 + (c.toNat - 48) ≤ valF (acc * 10 + (c.toNat - 48)) r := by
      rw [valF_eq]
      have : 1 ≤ 10 ^ r.length := Nat.pow_pos (by omega)
      have : (acc * 10 + (c.toNat - 48)) * 1 ≤ (acc * 10 + (c.toNat - 48)) * 10 ^ r.length := Nat.mul_le_mul_left _ this
      omega
    rw [valF_cons]
    unfold Lib.parseUint10
    rw [if_pos hc]
    by_cases h1 : 1844674407370955162 ≤ acc
    · rw [if_pos h1, if_neg (by omega)]
    rw [if_neg h1]
    by_cases h2 : 18446744073709551616 ≤ acc * 10 + (c.toNat - 48)
    · rw [if_pos h2, if_neg (by omega)]
    rw [if_neg h2]
    exact parse_val r _ h.2 (by omega)
theorem parse_mag {s : Str} (h : digitsP s = true) : Lib.parseMag s = if valS s < 18446744073709551616 then .ok (valS s) else .range := by
  obtain ⟨h1, h2⟩ := digits_ne h
  unfold Lib.parseMag
  rw [if_neg h1, parse_val s 0 h2 (by omega)]
  rfl
/-- what Atoi answers of a number's text -/
theorem atoiAll_num {s : Str} (h : digitsP (cutM s).1 = true) :
    (valS (cutM s).1 ≤ 4611686018427387904 → Lib.atoiAll s = .ok (if (cutM s).2 = true then -(valS (cutM s).1 : Int) else (valS (cutM s).1 : Int))) ∧
    (4611686018427387904 < valS (cutM s).1 → (∃ v, Lib.atoiAll s = .ok v ∧ (v < -4611686018427387904 ∨ 4611686018427387904 < v) ∧ -9223372036854775808 ≤ v ∧ v ≤ 9223372036854775807) ∨ Lib.atoiAll s = .range) := by
  obtain ⟨h1, h2⟩ := digits_ne h
  cases s with
  | nil => exact absurd rfl h1
  | cons c r =>
    by_cases hc : c = 45
    · subst hc
      have hcut : cutM (45 :: r) = (r, true) := rfl
      rw [hcut] at h h1 h2 ⊢
      have hA : Lib.atoiAll (45 :: r) = match Lib.parseMag r with
          | .syntax => .syntax
          | .range => .range
          | .ok u => if 9223372036854775808 < u then .range else .ok (-(u : Int)) := by
        unfold Lib.atoiAll
        simp only [show (45 : UInt8).toNat = 45 from rfl, or_true, if_true, not_true_eq_false, false_and, true_and, if_false]
        cases Lib.parseMag r <;> rfl
      rw [hA, parse_mag h]
      dsimp only
      generalize valS r = v
      refine ⟨fun hv => ?_, fun hv => ?_⟩
      · rw [if_pos (by omega)]
        dsimp only
        rw [if_neg (by omega), if_pos rfl]
      · by_cases h3 : v < 18446744073709551616
        · rw [if_pos h3]
          dsimp only
          by_cases h4 : 9223372036854775808 < v
          · rw [if_pos h4]; exact .inr rfl
          · rw [if_neg h4]; exact .inl ⟨_, rfl, by omega, by omega, by omega⟩
        · rw [if_neg h3]; exact .inr rfl
    · have hcut : cutM (c :: r) = (c :: r, false) := by unfold cutM; rw [if_neg (by simpa using hc)]
      rw [hcut] at h h1 h2 ⊢
      have hd : digC c = true := by simp only [List.all_cons, Bool.and_eq_true] at h2; exact h2.1
      have hd2 := digC_nat.1 hd
      have hA : Lib.atoiAll (c :: r) = match Lib.parseMag (c :: r) with
          | .syntax => .syntax
          | .range => .range
          | .ok u => if 9223372036854775808 ≤ u then .range else .ok (u : Int) := by
        unfold Lib.atoiAll
        simp only [show ¬ c.toNat = 43 by omega, show ¬ c.toNat = 45 by omega, or_self, if_false, not_false_eq_true, true_and, false_and]
        cases Lib.parseMag (c :: r) <;> rfl
      rw [hA, parse_mag h]
      dsimp only
      generalize valS (c :: r) = v
      refine ⟨fun hv => ?_, fun hv => ?_⟩
      · rw [if_pos (by omega)]
        dsimp only
        rw [if_neg (by omega), if_neg (by decide)]
      · by_cases h3 : v < 18446744073709551616
        · rw [if_pos h3]
          dsimp only
          by_cases h4 : 9223372036854775808 ≤ v
          · rw [if_pos h4]; exact .inr rfl
          · rw [if_neg h4]; exact .inl ⟨_, rfl, by omega, by omega, by omega⟩
        · rw [if_neg h3]; exact .inr rfl
end ExP
theorem XE.below {w w' : World} (h : XE w) (hb : Below w.heap.size w w') : XE w' := by
  obtain ⟨te, pe, h⟩ := h
  exact ⟨te, pe, (hb.cell (World.block_lt_of_cell? _ _ h)).trans h⟩
theorem run_ne_nil {P : Program} {w : World} {t : TypeId} {ms : Array (String × TypeId)} (v : Value) (b : Bool) (hv : (v = .nilIface ∧ b = false) ∨ ((∃ tp p, v = .iface tp p) ∧ b = true)) (hi : P.underlying t = some (.interface ms)) :
    (binOp .neq t v .nilIface).run P w = .ok (.bool b) w := by
  rcases hv with ⟨rfl, rfl⟩ | ⟨⟨tp, p, rfl⟩, rfl⟩
  · have h : ∀ d : Nat, (Op.equalIn (d + 1) t .nilIface .nilIface).run P w = .ok true w := fun d => by simp [Op.equalIn, run_underlying hi]
    simp only [binOp]
    simp [Op.equal, Op.maxDepth, h 9999]
  · have h : ∀ d : Nat, (Op.equalIn (d + 1) t (.iface tp p) .nilIface).run P w = .ok false w := fun d => by simp [Op.equalIn, run_underlying hi]
    simp only [binOp]
    simp [Op.equal, Op.maxDepth, h 9999]
theorem x_neNil {C : Ctx} {G : Blobs} {x : Operand} {t u : TypeId} {ms : Array (String × TypeId)} (v : Value) (b : Bool) (hv : (v = .nilIface ∧ b = false) ∨ ((∃ tp p, v = .iface tp p) ∧ b = true)) (ht : C.P.underlying t = some (.interface ms)) : ExtN C G (.binOp .neq t x (.const .nilIface) u) [.any v, .any .nilIface] (.lit b) := by
  unfold ExtN
  intro ρ β w dst ty pos after g _ _ h
  have h' : ρ x = v ∧ ρ (.const .nilIface) = .nilIface := by simpa [opsX, SV.dens, SV.den] using h
  have h2 := run_ne_nil (P := C.P) (w := w) (t := t) v b hv ht
  rcases hv with ⟨rfl, rfl⟩ | ⟨⟨tp, p, rfl⟩, rfl⟩ <;> simp [execOp, eqGuard, h'.1, h'.2, h2, SV.den]
/-- a function that answers with a number, whether there is one, and an error -/
def InOut (v : Int) (ok : Bool) (err : Int) (w : World) (e : Ending) (w' : World) : Prop := e = .returned (.tuple #[.int .i64 v, .bool ok, .int .i64 err]) ∧ Below w.heap.size w w'
def ExP.intV (f : ExP.Fr) : Int := if (ExP.readN f).m = true then -((ExP.readN f).n : Int) else ((ExP.readN f).n : Int)
section
variable (f : ExP.Fr) (w : World) (hw : XE w) (hw0 : 0 < w.heap.size) (h1 : f.1.length ≤ 9223372036854775807) (h2 : f.2.length ≤ 9223372036854775807)
include hw0 h1 h2
set_option maxRecDepth 100000 in
set_option maxHeartbeats 4000000 in
theorem int_bad (hE : ExP.readE f ≠ 0) :
    Calls Tryz.prog 42 #[frV f] w (InOut 0 false (ExP.readE f) w) := by
  have R1 := fun (w' : World) (h : Below w.heap.size w w') => check_any f w' (Nat.lt_of_lt_of_le hw0 h.size) h1 h2
  generalize ExP.readE f = E at *
  obtain ⟨f1, f2⟩ := f
  refine enter env_ok Tryz.func42 rfl Tryz.results42 Tryz.ntmps42 [] [] [.agg [.str f1, .str f2]] (by simp [SV.oks, SV.ok]) (Nat.le_of_ble_eq_true rfl) w _ 1000 ?_
  repeat' (first | ((with_reducible first | show wpS _ _ _ _ | show putD _ _ _ _ | show putW _ _ _ _ | show splitG _ _ _ | show wpQ _ _ _ _ _ _ | show wpD _ _ _ _ _ _ _ | show wpX _ _ _ _ _ _ _ | show expX _ _ _ _ _ _ | show stepX _ _ _ _ | show keepR _ _ _ | show wpY _ _ _ _); conv => whnf) | ((with_reducible show RetN _ _ _); refine retB fun β => ?_) | ((with_reducible show _ ∧ _); first | (apply And.intro; (· intro h; exfalso; first | omega | (revert h; decide)); intro _) | (apply And.intro; rotate_left; (· intro h; exfalso; first | omega | (revert h; decide)); intro _) | (refine ⟨fun _ => ?_, fun _ => ?_⟩) | (apply And.intro; · kernel_rfl) | (apply And.intro; · (show inK _ _; unfold inK; omega)) | (apply And.intro; · (show (_ : Int) ≤ 9223372036854775807; (try simp only [List.length_append, List.length_drop, List.length_take, List.length_cons, List.length_nil]); omega))) | ((with_reducible show AllBe _); refine allBe fun βe => ?_; conv => whnf) | ((with_reducible show bothX _ _); refine bothI ?_ ?_; conv => whnf) | (with_reducible exact trivial) | ((with_reducible show CallN _ _ _ _ _ _ _ _); refine call_of env_ok rfl 1000 ?_) | ((with_reducible show XopN _ _ _ _ _ _); refine xop_of env_ok rfl 1000 ?_) | ((with_reducible show CallX _ _ _ _ _ _); first | (refine callX (.int .i64 E) (by kernel_rfl) rfl (trivial) (fun β w hm => R1 w hm.below) ?_)) | ((with_reducible show OpX _ _ _ _); first | fail) | ((with_reducible show ∃ _ : SV, _); first | fail) | ((with_reducible show ∃ _, _); first | fail))
  all_goals first | rfl | (exfalso; simp_all; done)
set_option maxRecDepth 100000 in
set_option maxHeartbeats 4000000 in
theorem int_small (hE : ExP.readE f = 0) (hn : (ExP.readN f).n ≤ 4611686018427387904) :
    Calls Tryz.prog 42 #[frV f] w (InOut (if f.2 = [49] then ExP.intV f else 0) (decide (f.2 = [49])) 0 w) := by
  have R1 := fun (w' : World) (h : Below w.heap.size w w') => check_any f w' (Nat.lt_of_lt_of_le hw0 h.size) h1 h2
  rw [hE] at R1
  have hr := ExP.read_ok hE
  have hb : -4611686018427387904 ≤ ExP.intV f ∧ ExP.intV f ≤ 4611686018427387904 := by unfold ExP.intV; split <;> omega
  have A1 : ∀ w' : World, Calls Tryz.prog 90 #[.string (bstr f.1)] w' fun e w'' => e = .returned (.tuple #[.int .i64 (ExP.intV f), .nilIface]) ∧ Below w'.heap.size w' w'' := fun w' => by
    have hA := (ExP.atoiAll_num hr.1).1 hn
    have hl : f.1.length ≤ 301 := by
      have := hr.2.2.2.1
      unfold ExP.cutM at this
      split at this
      · simp only [List.length_tail] at this; omega
      · dsimp only at this; omega
    refine (Tryz.strconv_Atoi_ok (bstr f.1) (by rw [bstr_size]; omega) (ExP.intV f) (by rw [show (bstr f.1).data.toList = f.1 by simp [bstr]]; exact hA) w').mono ?_
    rintro e w'' ⟨rfl, h | ⟨t, h⟩⟩
    · exact ⟨rfl, by rw [h]; exact Below.refl _ _⟩
    · exact ⟨rfl, by rw [h]; exact Lib.bytesWorld_below _ _ _⟩
  generalize ExP.intV f = v at *
  obtain ⟨f1, f2⟩ := f
  dsimp only at *
  refine enter env_ok Tryz.func42 rfl Tryz.results42 Tryz.ntmps42 [] [] [.agg [.str f1, .str f2]] (by simp [SV.oks, SV.ok]) (Nat.le_of_ble_eq_true rfl) w _ 1000 ?_
  repeat' (first | ((with_reducible first | show wpS _ _ _ _ | show putD _ _ _ _ | show putW _ _ _ _ | show splitG _ _ _ | show wpQ _ _ _ _ _ _ | show wpD _ _ _ _ _ _ _ | show wpX _ _ _ _ _ _ _ | show expX _ _ _ _ _ _ | show stepX _ _ _ _ | show keepR _ _ _ | show wpY _ _ _ _); conv => whnf) | ((with_reducible show RetN _ _ _); refine retB fun β => ?_) | ((with_reducible show _ ∧ _); first | (apply And.intro; (· intro h; exfalso; first | omega | (revert h; decide)); intro _) | (apply And.intro; rotate_left; (· intro h; exfalso; first | omega | (revert h; decide)); intro _) | (refine ⟨fun _ => ?_, fun _ => ?_⟩) | (apply And.intro; · kernel_rfl) | (apply And.intro; · (show inK _ _; unfold inK; omega)) | (apply And.intro; · (show (_ : Int) ≤ 9223372036854775807; (try simp only [List.length_append, List.length_drop, List.length_take, List.length_cons, List.length_nil]); omega))) | ((with_reducible show AllBe _); refine allBe fun βe => ?_; conv => whnf) | ((with_reducible show bothX _ _); refine bothI ?_ ?_; conv => whnf) | (with_reducible exact trivial) | ((with_reducible show CallN _ _ _ _ _ _ _ _); refine call_of env_ok rfl 1000 ?_) | ((with_reducible show XopN _ _ _ _ _ _); refine xop_of env_ok rfl 1000 ?_) | ((with_reducible show CallX _ _ _ _ _ _); first | (refine callX (.int .i64 0) (by kernel_rfl) rfl (trivial) (fun β w hm => R1 w hm.below) ?_) | (refine callX (.tup [.int .i64 v, .any .nilIface]) (by kernel_rfl) rfl (⟨trivial, rfl, trivial⟩) (fun β w hm => A1 w) ?_) | fail) | ((with_reducible show OpX _ _ _ _); first | fail) | ((with_reducible show ∃ _ : SV, _); first | (refine ⟨.lit false, ?ok, x_neNil _ false (.inl ⟨rfl, rfl⟩) Tryz.underlying106, ?_⟩; (case ok => exact fun _ _ => trivial))) | ((with_reducible show ∃ _, _); first | fail))
  all_goals first | (exfalso; omega) | (rw [if_neg (by assumption), decide_eq_false (by assumption)]; rfl) | (rw [if_pos (Decidable.not_not.1 (by assumption)), decide_eq_true (Decidable.not_not.1 (by assumption))]; rfl) | fail
include hw
set_option maxRecDepth 100000 in
set_option maxHeartbeats 4000000 in
theorem int_big (hE : ExP.readE f = 0) (hn : 4611686018427387904 < (ExP.readN f).n) :
    Calls Tryz.prog 42 #[frV f] w (InOut 0 false 0 w) := by
  have R1 := fun (w' : World) (h : Below w.heap.size w w') => check_any f w' (Nat.lt_of_lt_of_le hw0 h.size) h1 h2
  rw [hE] at R1
  have hr := ExP.read_ok hE
  have hl : f.1.length ≤ 301 := by
    have := hr.2.2.2.1
    unfold ExP.cutM at this
    split at this
    · simp only [List.length_tail] at this; omega
    · dsimp only at this; omega
  rcases (ExP.atoiAll_num hr.1).2 hn with ⟨v, hA, hv, hv1, hv2⟩ | hA
  · have A1 : ∀ w' : World, Calls Tryz.prog 90 #[.string (bstr f.1)] w' fun e w'' => e = .returned (.tuple #[.int .i64 v, .nilIface]) ∧ Below w'.heap.size w' w'' := fun w' => by
      refine (Tryz.strconv_Atoi_ok (bstr f.1) (by rw [bstr_size]; omega) v (by rw [show (bstr f.1).data.toList = f.1 by simp [bstr]]; exact hA) w').mono ?_
      rintro e w'' ⟨rfl, h | ⟨t, h⟩⟩
      · exact ⟨rfl, by rw [h]; exact Below.refl _ _⟩
      · exact ⟨rfl, by rw [h]; exact Lib.bytesWorld_below _ _ _⟩
    clear hw
    obtain ⟨f1, f2⟩ := f
    dsimp only at *
    refine enter env_ok Tryz.func42 rfl Tryz.results42 Tryz.ntmps42 [] [] [.agg [.str f1, .str f2]] (by simp [SV.oks, SV.ok]) (Nat.le_of_ble_eq_true rfl) w _ 1000 ?_
    repeat' (first | ((with_reducible first | show wpS _ _ _ _ | show putD _ _ _ _ | show putW _ _ _ _ | show splitG _ _ _ | show wpQ _ _ _ _ _ _ | show wpD _ _ _ _ _ _ _ | show wpX _ _ _ _ _ _ _ | show expX _ _ _ _ _ _ | show stepX _ _ _ _ | show keepR _ _ _ | show wpY _ _ _ _); conv => whnf) | ((with_reducible show RetN _ _ _); refine retB fun β => ?_) | ((with_reducible show _ ∧ _); first | (apply And.intro; (· intro h; exfalso; first | omega | (revert h; decide)); intro _) | (apply And.intro; rotate_left; (· intro h; exfalso; first | omega | (revert h; decide)); intro _) | (refine ⟨fun _ => ?_, fun _ => ?_⟩) | (apply And.intro; · kernel_rfl) | (apply And.intro; · (show inK _ _; unfold inK; omega)) | (apply And.intro; · (show (_ : Int) ≤ 9223372036854775807; (try simp only [List.length_append, List.length_drop, List.length_take, List.length_cons, List.length_nil]); omega))) | ((with_reducible show AllBe _); refine allBe fun βe => ?_; conv => whnf) | ((with_reducible show bothX _ _); refine bothI ?_ ?_; conv => whnf) | (with_reducible exact trivial) | ((with_reducible show CallN _ _ _ _ _ _ _ _); refine call_of env_ok rfl 1000 ?_) | ((with_reducible show XopN _ _ _ _ _ _); refine xop_of env_ok rfl 1000 ?_) | ((with_reducible show CallX _ _ _ _ _ _); first | (refine callX (.int .i64 0) (by kernel_rfl) rfl (trivial) (fun β w hm => R1 w hm.below) ?_) | (refine callX (.tup [.int .i64 v, .any .nilIface]) (by kernel_rfl) rfl (⟨trivial, rfl, trivial⟩) (fun β w hm => A1 w) ?_) | fail) | ((with_reducible show OpX _ _ _ _); first | fail) | ((with_reducible show ∃ _ : SV, _); first | (refine ⟨.lit false, ?ok, x_neNil _ false (.inl ⟨rfl, rfl⟩) Tryz.underlying106, ?_⟩; (case ok => exact fun _ _ => trivial))) | ((with_reducible show ∃ _, _); first | fail))
    all_goals first | (exfalso; omega) | rfl | fail
  · have A1 : ∀ w' : World, Below w.heap.size w w' → Calls Tryz.prog 90 #[.string (bstr f.1)] w' fun e w'' => ∃ N, e = .returned (.tuple #[.int .i64 (Lib.atoiSat f.1), .iface 141 (.pointer (some ⟨N, 0, none⟩))]) ∧ Below w'.heap.size w' w'' := fun w' hb => by
      obtain ⟨te, pe, he⟩ := hw.below hb
      refine (Tryz.strconv_Atoi_range (bstr f.1) (by rw [bstr_size]; omega) (by rw [show (bstr f.1).data.toList = f.1 by simp [bstr]]; exact hA) (.iface te pe) w' he (.inr ⟨_, _, rfl⟩)).mono ?_
      rintro e w'' ⟨N, h, -, -, hb2⟩
      exact ⟨N, by rw [h, show (bstr f.1).data.toList = f.1 by simp [bstr]], hb2⟩
    have hsat : -9223372036854775808 ≤ Lib.atoiSat f.1 ∧ Lib.atoiSat f.1 ≤ 9223372036854775807 := by unfold Lib.atoiSat; split <;> omega
    generalize Lib.atoiSat f.1 = v at *
    clear hw
    obtain ⟨f1, f2⟩ := f
    dsimp only at *
    refine enter env_ok Tryz.func42 rfl Tryz.results42 Tryz.ntmps42 [] [] [.agg [.str f1, .str f2]] (by simp [SV.oks, SV.ok]) (Nat.le_of_ble_eq_true rfl) w _ 1000 ?_
    repeat' (first | ((with_reducible first | show wpS _ _ _ _ | show putD _ _ _ _ | show putW _ _ _ _ | show splitG _ _ _ | show wpQ _ _ _ _ _ _ | show wpD _ _ _ _ _ _ _ | show wpX _ _ _ _ _ _ _ | show expX _ _ _ _ _ _ | show stepX _ _ _ _ | show keepR _ _ _ | show wpY _ _ _ _); conv => whnf) | ((with_reducible show RetN _ _ _); refine retB fun β => ?_) | ((with_reducible show _ ∧ _); first | (apply And.intro; (· intro h; exfalso; first | omega | (revert h; decide)); intro _) | (apply And.intro; rotate_left; (· intro h; exfalso; first | omega | (revert h; decide)); intro _) | (refine ⟨fun _ => ?_, fun _ => ?_⟩) | (apply And.intro; · kernel_rfl) | (apply And.intro; · (show inK _ _; unfold inK; omega)) | (apply And.intro; · (show (_ : Int) ≤ 9223372036854775807; (try simp only [List.length_append, List.length_drop, List.length_take, List.length_cons, List.length_nil]); omega))) | ((with_reducible show AllBe _); refine allBe fun βe => ?_; conv => whnf) | ((with_reducible show bothX _ _); refine bothI ?_ ?_; conv => whnf) | (with_reducible exact trivial) | ((with_reducible show CallN _ _ _ _ _ _ _ _); refine call_of env_ok rfl 1000 ?_) | ((with_reducible show XopN _ _ _ _ _ _); refine xop_of env_ok rfl 1000 ?_) | ((with_reducible show CallX _ _ _ _ _ _); first | (refine callX (.int .i64 0) (by kernel_rfl) rfl (trivial) (fun β w hm => R1 w hm.below) ?_) | (refine callSls (T := Nat) (fun N => .tup [.int .i64 v, .any (.iface 141 (.pointer (some ⟨N, 0, none⟩)))]) (fun _ => []) hw0 (by kernel_rfl) rfl (fun N => ⟨trivial, rfl, trivial⟩) (fun β w' hm => (A1 w' hm.below).mono fun e w'' ⟨N, he, hb⟩ => ⟨hb, N, he, fun p hp => by cases hp⟩) (fun N _ => ?_)) | fail) | ((with_reducible show OpX _ _ _ _); first | fail) | ((with_reducible show ∃ _ : SV, _); first | (refine ⟨.lit true, ?ok, x_neNil _ true (.inr ⟨⟨_, _, rfl⟩, rfl⟩) Tryz.underlying106, ?_⟩; (case ok => exact fun _ _ => trivial))) | ((with_reducible show ∃ _, _); first | fail))
    all_goals first | (exfalso; omega) | rfl | fail
end
end Go.Proofs.YtfodbfbljeeojaaGreatDoor
namespace Go.Proofs.YtfodbfbljeeojaaGreatDoor
open Go.RowKit
namespace Sym
theorem opx_strBytes {C : Ctx} {d : Nat} {ty : TypeId} {pos : String} {after : Array Edge} {gd : Option (Nat × Bool)} {fr : List (Nat × SV)} {rows : List (Nat × Bool × SRow)} {nx n : Nat} {K : St → Prop}
    {x : Operand} {src dst e : TypeId} (l : List UInt8) (h0 : 0 < C.base) (hd : Nat.blt d n = true) (hx : ev fr x = some (.str l))
    (hs0 : C.P.underlying src = some .string) (hd0 : C.P.underlying dst = some (.slice e)) (he : C.P.underlying e = some (.int .u8))
    (h : ∀ g cap, K ⟨(d, .any (.slice (some ⟨g, 0, none⟩) l.length cap)) :: fr, (nx, false, .blob (SlF C.base (some ⟨g, 0, none⟩) (bvals l))) :: rows, nx + 1, n⟩) :
    OpX C ⟨some d, .convert src dst x, ty, pos, after, gd⟩ ⟨fr, rows, nx, n⟩ K := by
  unfold OpX
  intro β a w hs next Q hn
  have e1 := (ev_sound hs hx).1
  have hlen : (bstr l).size = l.length := bstr_size l
  have hr := Lib.run_convert_string_bytes (P := C.P) w src dst e (bstr l) hs0 hd0 he
  rw [hlen] at hr
  unfold Oper.wp
  have hrun : (execOp a.eval ⟨some d, .convert src dst x, ty, pos, after, gd⟩).run C.P w = .ok (.value (.slice (some ⟨w.heap.size, 0, none⟩) l.length (grownCap w l.length 0 e))) (Lib.bytesWorld w e (bstr l)) := by
    simp only [execOp, e1, SV.den, Sem.run_bind, hr]; simp
  rw [hrun]
  have hm := hs.mem
  have hb : Below w.heap.size w (Lib.bytesWorld w e (bstr l)) := Go.Joins.below_bytesWorld w.heap.size w e _ (Nat.le_refl _)
  have hs' : Sat C.base C.w0 ⟨fr, rows, nx, n⟩ β a (Lib.bytesWorld w e (bstr l)) := ⟨hs.defers, hs.size, hs.slot, hm.belowNext hb⟩
  have ho : ∀ i r, get rows i = some (true, r) → C.base ≤ β i ∧ β i < w.heap.size := fun i r hi => ⟨(hm.row i true r hi).2.2.2 rfl, hm.lt i (hm.row i true r hi).2.2.1⟩
  have hsl : SlAt (some ⟨w.heap.size, 0, none⟩) (bvals l) (Lib.bytesWorld w e (bstr l)) := fun i v hi => by
    refine ⟨_, rfl, ?_, ?_⟩
    · rw [Lib.bytesWorld_size]; exact Nat.lt_succ_self _
    · have hil : i < l.length := by
        have := (List.getElem?_eq_some_iff.1 hi).1
        simpa [bvals] using this
      have h1 := Lib.bytesWorld_cell w e (bstr l) i (by rw [hlen]; exact hil)
      have h2 : (Addr.add ⟨w.heap.size, 0, none⟩ i : Addr) = ⟨w.heap.size, i, none⟩ := by simp [Addr.add, eq_comm]
      rw [h2, h1, ← hi]
      have h3 : (bvals l)[i]? = some (.int .u8 (l[i].toNat : Int)) := by simp [bvals, hil]
      rw [h3]
      congr 2
      simp [bstr, List.getD, hil]
  obtain ⟨q, k1⟩ := hs'.learnC (a := some ⟨w.heap.size, 0, none⟩) (xs := bvals l) h0 hm.base_le hb.size ho hsl (.inl fun _ ad e => by cases e; exact Nat.le_refl _)
  have hs3 := k1.put (d := d) (by simpa [Nat.blt_eq] using hd) (v := .any (.slice (some ⟨w.heap.size, 0, none⟩) l.length (grownCap w l.length 0 e))) rfl
  exact hn _ _ _ _ (h w.heap.size _) hs3
end Sym
end Go.Proofs.YtfodbfbljeeojaaGreatDoor
namespace Go.Proofs.YtfodbfbljeeojaaGreatDoor
open Go.RowKit
open Sym
attribute [local irreducible] Calls Sym.AggEq ExP.nd ExP.dig ExP.upd
set_option maxRecDepth 100000 in
theorem trimSign_any (s : List UInt8) (w : World) (hs : s.length ≤ 9223372036854775807) : Calls Tryz.prog 91 #[.string (bstr s)] w fun e w' => e = .returned (.string (bstr (ExP.cutM s).1)) ∧ Below w.heap.size w w' := by
  cases s with
  | nil =>
    refine enter env_ok Tryz.func91 rfl Tryz.results91 Tryz.ntmps91 [] [] [.str []] (by simp [SV.oks, SV.ok]) (Nat.le_of_ble_eq_true rfl) w _ 1000 ?_
    repeat' (first | ((with_reducible first | show wpS _ _ _ _ | show putD _ _ _ _ | show putW _ _ _ _ | show splitG _ _ _ | show wpQ _ _ _ _ _ _ | show wpD _ _ _ _ _ _ _ | show wpX _ _ _ _ _ _ _ | show expX _ _ _ _ _ _ | show stepX _ _ _ _ | show keepR _ _ _ | show wpY _ _ _ _); conv => whnf) | ((with_reducible show RetN _ _ _); refine retB fun β => ?_) | ((with_reducible show _ ∧ _); first | (apply And.intro; (· intro h; exfalso; first | omega | (revert h; decide)); intro _) | (apply And.intro; rotate_left; (· intro h; exfalso; first | omega | (revert h; decide)); intro _) | (refine ⟨fun _ => ?_, fun _ => ?_⟩) | (apply And.intro; · kernel_rfl) | (apply And.intro; · (show inK _ _; unfold inK; omega)) | (apply And.intro; · (show (_ : Int) ≤ 9223372036854775807; (try simp only [List.length_append, List.length_drop, List.length_take, List.length_cons, List.length_nil]); omega))) | ((with_reducible show AllBe _); refine allBe fun βe => ?_; conv => whnf) | ((with_reducible show bothX _ _); refine bothI ?_ ?_; conv => whnf) | (with_reducible exact trivial) | ((with_reducible show CallN _ _ _ _ _ _ _ _); refine call_of env_ok rfl 1000 ?_) | ((with_reducible show XopN _ _ _ _ _ _); refine xop_of env_ok rfl 1000 ?_) | ((with_reducible show CallX _ _ _ _ _ _); first | fail) | ((with_reducible show OpX _ _ _ _); first | fail) | ((with_reducible show ∃ _ : SV, _); first | fail) | ((with_reducible show ∃ _, _); first | fail))
    all_goals first | rfl | (exfalso; simp_all; done)
  | cons c r =>
    have h0 : ((c :: r : List UInt8).getD 0 0).toNat = c.toNat := rfl
    have hl : (c :: r).length = r.length + 1 := rfl
    by_cases hc : c = 45
    · subst hc
      have e : ExP.cutM (45 :: r) = (r, true) := rfl
      rw [e]
      refine enter env_ok Tryz.func91 rfl Tryz.results91 Tryz.ntmps91 [] [] [.str (45 :: r)] (by simp [SV.oks, SV.ok]) (Nat.le_of_ble_eq_true rfl) w _ 1000 ?_
      repeat' (first | ((with_reducible first | show wpS _ _ _ _ | show putD _ _ _ _ | show putW _ _ _ _ | show splitG _ _ _ | show wpQ _ _ _ _ _ _ | show wpD _ _ _ _ _ _ _ | show wpX _ _ _ _ _ _ _ | show expX _ _ _ _ _ _ | show stepX _ _ _ _ | show keepR _ _ _ | show wpY _ _ _ _); conv => whnf) | ((with_reducible show RetN _ _ _); refine retB fun β => ?_) | ((with_reducible show _ ∧ _); first | (apply And.intro; (· intro h; exfalso; first | omega | (revert h; decide)); intro _) | (apply And.intro; rotate_left; (· intro h; exfalso; first | omega | (revert h; decide)); intro _) | (refine ⟨fun _ => ?_, fun _ => ?_⟩) | (apply And.intro; · kernel_rfl) | (apply And.intro; · (show inK _ _; unfold inK; omega)) | (apply And.intro; · (show (_ : Int) ≤ 9223372036854775807; (try simp only [List.length_append, List.length_drop, List.length_take, List.length_cons, List.length_nil]); omega))) | ((with_reducible show AllBe _); refine allBe fun βe => ?_; conv => whnf) | ((with_reducible show bothX _ _); refine bothI ?_ ?_; conv => whnf) | (with_reducible exact trivial) | ((with_reducible show CallN _ _ _ _ _ _ _ _); refine call_of env_ok rfl 1000 ?_) | ((with_reducible show XopN _ _ _ _ _ _); refine xop_of env_ok rfl 1000 ?_) | ((with_reducible show CallX _ _ _ _ _ _); first | fail) | ((with_reducible show OpX _ _ _ _); first | fail) | ((with_reducible show ∃ _ : SV, _); first | fail) | ((with_reducible show ∃ _, _); first | (refine ⟨0, rfl, by simp, ?_⟩) | (refine ⟨1, rfl, by simp, ?_⟩)))
      all_goals first | rfl | (exfalso; omega) | (exfalso; simp_all; done)
    · have e : ExP.cutM (c :: r) = (c :: r, false) := by unfold ExP.cutM; rw [if_neg (by simpa using hc)]
      rw [e]
      have hcn : ¬ ((c :: r : List UInt8).getD 0 0).toNat = 45 := fun h => hc (UInt8.toNat_inj.1 h)
      refine enter env_ok Tryz.func91 rfl Tryz.results91 Tryz.ntmps91 [] [] [.str (c :: r)] (by simp [SV.oks, SV.ok]) (Nat.le_of_ble_eq_true rfl) w _ 1000 ?_
      repeat' (first | ((with_reducible first | show wpS _ _ _ _ | show putD _ _ _ _ | show putW _ _ _ _ | show splitG _ _ _ | show wpQ _ _ _ _ _ _ | show wpD _ _ _ _ _ _ _ | show wpX _ _ _ _ _ _ _ | show expX _ _ _ _ _ _ | show stepX _ _ _ _ | show keepR _ _ _ | show wpY _ _ _ _); conv => whnf) | ((with_reducible show RetN _ _ _); refine retB fun β => ?_) | ((with_reducible show _ ∧ _); first | (apply And.intro; (· intro h; exfalso; first | omega | (revert h; decide)); intro _) | (apply And.intro; rotate_left; (· intro h; exfalso; first | omega | (revert h; decide)); intro _) | (refine ⟨fun _ => ?_, fun _ => ?_⟩) | (apply And.intro; · kernel_rfl) | (apply And.intro; · (show inK _ _; unfold inK; omega)) | (apply And.intro; · (show (_ : Int) ≤ 9223372036854775807; (try simp only [List.length_append, List.length_drop, List.length_take, List.length_cons, List.length_nil]); omega))) | ((with_reducible show AllBe _); refine allBe fun βe => ?_; conv => whnf) | ((with_reducible show bothX _ _); refine bothI ?_ ?_; conv => whnf) | (with_reducible exact trivial) | ((with_reducible show CallN _ _ _ _ _ _ _ _); refine call_of env_ok rfl 1000 ?_) | ((with_reducible show XopN _ _ _ _ _ _); refine xop_of env_ok rfl 1000 ?_) | ((with_reducible show CallX _ _ _ _ _ _); first | fail) | ((with_reducible show OpX _ _ _ _); first | fail) | ((with_reducible show ∃ _ : SV, _); first | fail) | ((with_reducible show ∃ _, _); first | (refine ⟨0, rfl, by simp, ?_⟩) | (refine ⟨1, rfl, by simp, ?_⟩)))
      all_goals first | rfl | (exfalso; omega) | (exfalso; simp_all; done)
theorem ExP.take_le {s : List UInt8} (n : Nat) : ExP.valS (s.take n) ≤ ExP.valS s := by
  have h : ExP.valS s = ExP.valF (ExP.valS (s.take n)) (s.drop n) := by
    conv => lhs; rw [← List.take_append_drop n s]
    unfold ExP.valS ExP.valF
    rw [List.foldl_append]
  rw [h, ExP.valF_eq]
  have : 1 ≤ 10 ^ (s.drop n).length := Nat.pow_pos (by omega)
  have : ExP.valS (s.take n) * 1 ≤ ExP.valS (s.take n) * 10 ^ (s.drop n).length := Nat.mul_le_mul_left _ this
  omega
theorem ExP.sign_cut (m : Bool) (n : Nat) : ExP.cutM (ExP.signP m (Lib.decDigits n)) = (Lib.decDigits n, m) := by
  cases m with
  | false => exact ExP.cutM_dec n
  | true => rfl
theorem ExP.sign_len (m : Bool) (l : List UInt8) : l.length ≤ (ExP.signP m l).length ∧ (ExP.signP m l).length ≤ l.length + 1 := by
  cases m <;> simp [ExP.signP]
set_option maxRecDepth 100000 in
set_option maxHeartbeats 4000000 in
theorem rint_no (x : FrV) (w : World) (hw0 : 0 < w.heap.size) (hx : FrIn .i64 10 x w) (hd : 0 < x.d) (hxn : ExP.nd 10 x.n ≤ 300) (hxd : ExP.nd 10 x.d ≤ 300) (hg : Nat.gcd x.n x.d = 1) (hxm : x.m = true → x.n ≠ 0)
    (P : Nat) (hP : (P : Int) = 4611686018427387904) (hno : x.d ≠ 1 ∨ P < x.n) :
    Calls Tryz.prog 43 #[x.val 10] w fun e w' => e = .returned (.tuple #[.int .i64 0, .bool false]) ∧ Below w.heap.size w w' := by
  have R1 := fun (w' : World) (h : Below w.heap.size w w') => rfrac_any x w' (Nat.lt_of_lt_of_le hw0 h.size) (hx.below h) hd (by omega) (by omega)
  obtain ⟨e1, e2⟩ := ExP.write_red (x := x.num) hd hxn hxd hg hxm
  rw [e1, e2] at R1
  obtain ⟨m, n, d, xa, xc, xb, xe⟩ := x
  dsimp only [FrV.num, FrV.val] at *
  have hd1 := ExP.dec_one (g := d)
  have hlen := ExP.dec_len hxn (by omega)
  have hsl := ExP.sign_len m (Lib.decDigits n)
  have TS := fun w' => trimSign_any (ExP.signP m (Lib.decDigits n)) w' (by omega)
  rw [ExP.sign_cut] at TS
  have N1 := fun w' => natOf_any (Lib.decDigits n) w' (by omega) (ExP.dec_digits _)
  have DP := fun w' => decimal_pos P (by omega) w'
  rw [hP] at DP
  have hPl : (Lib.decDigits P).length ≤ 1000000 := by have := dec_le P (by omega); omega
  have N2 := fun w' => natOf_any (Lib.decDigits P) w' hPl (ExP.dec_digits _)
  rw [ExP.val_dec] at N1 N2
  have hPn : ExP.nd 10 P ≤ 100000000 := Nat.le_trans (ExP.nd_le (n := 20) (by omega) (by omega)) (by omega)
  have CM := fun a c a2 c2 w' => rcompare_any a a2 c c2 n P w' (by omega) hPn
  have hcm : P < n → 0 < ExP.cmpS n P := fun h => by have := ExP.cmpS_ge (x := P) (y := n); unfold ExP.cmpS at *; simp only [gt_iff_lt]; split <;> (try split) <;> omega
  generalize Lib.decDigits P = LP at *
  generalize hF : ExP.signP m (Lib.decDigits n) = F at *
  generalize Lib.decDigits n = L at *
  generalize ExP.cmpS n P = cv at *
  generalize Lib.decDigits d = D at *
  refine enter env_ok Tryz.func43 rfl Tryz.results43 Tryz.ntmps43 [] [] [.agg [.bool m, .any (.slice xa (ExP.nd 10 n) xc), .any (.slice xb (ExP.nd 10 d) xe)]] ⟨⟨trivial, rfl, rfl, trivial⟩, trivial⟩ (Nat.le_of_ble_eq_true rfl) w _ 1000 ?_
  repeat' (first | ((with_reducible first | show wpS _ _ _ _ | show putD _ _ _ _ | show putW _ _ _ _ | show splitG _ _ _ | show wpQ _ _ _ _ _ _ | show wpD _ _ _ _ _ _ _ | show wpX _ _ _ _ _ _ _ | show expX _ _ _ _ _ _ | show stepX _ _ _ _ | show keepR _ _ _ | show wpY _ _ _ _); conv => whnf) | ((with_reducible show RetN _ _ _); refine retB fun β => ?_) | ((with_reducible show _ ∧ _); first | (apply And.intro; (· intro h; exfalso; first | omega | (revert h; decide)); intro _) | (apply And.intro; rotate_left; (· intro h; exfalso; first | omega | (revert h; decide)); intro _) | (refine ⟨fun _ => ?_, fun _ => ?_⟩) | (apply And.intro; · kernel_rfl) | (apply And.intro; · (show inK _ _; unfold inK; omega)) | (apply And.intro; · (show (_ : Int) ≤ 9223372036854775807; (try simp only [List.length_append, List.length_drop, List.length_take, List.length_cons, List.length_nil]); omega))) | ((with_reducible show AllBe _); refine allBe fun βe => ?_; conv => whnf) | ((with_reducible show bothX _ _); refine bothI ?_ ?_; conv => whnf) | (with_reducible exact trivial) | ((with_reducible show CallN _ _ _ _ _ _ _ _); refine call_of env_ok rfl 1000 ?_) | ((with_reducible show XopN _ _ _ _ _ _); refine xop_of env_ok rfl 1000 ?_) | ((with_reducible show CallX _ _ _ _ _ _); first | (refine callX (.tup [.agg [.str F, .str D], .int .i64 0]) (by kernel_rfl) rfl (⟨⟨trivial, trivial, trivial⟩, trivial, trivial⟩) (fun β w hm => R1 w hm.below) ?_) | (refine callX (.str LP) (by kernel_rfl) rfl (trivial) (fun β w hm => DP w) ?_) | (refine callNat .i64 10 P hw0 (by kernel_rfl) rfl (fun β w' hm => N2 w') (fun a1 c1 h1 h2 h3 => ?_)) | (refine callX (.str L) (by kernel_rfl) rfl (trivial) (fun β w hm => TS w) ?_) | (refine callNat .i64 10 n hw0 (by kernel_rfl) rfl (fun β w' hm => N1 w') (fun a2 c2 h4 h5 h6 => ?_)) | (refine callX (.int .i64 cv) (by kernel_rfl) rfl (trivial) (fun β w hm => CM a2 c2 a1 c1 w (hm.slF 3 rfl) (hm.slF 2 rfl)) ?_) | fail) | ((with_reducible show OpX _ _ _ _); first | fail) | ((with_reducible show ∃ _ : SV, _); first | fail) | ((with_reducible show ∃ _, _); first | fail))
  all_goals first | rfl | (exfalso; rcases hno with h | h; (first | exact h (hd1.1 (Decidable.not_not.1 (by assumption))) | fail); (have := hcm h; omega)) | fail
theorem bvals_get {l : List UInt8} {i : Nat} (h : i < l.length) : (bvals l)[i]? = some (.int .u8 ((l.getD i 0).toNat : Int)) := by
  simp [bvals, List.getD, h]
set_option maxRecDepth 100000 in
set_option maxHeartbeats 4000000 in
theorem rint_yes (x : FrV) (w : World) (hw0 : 0 < w.heap.size) (hx : FrIn .i64 10 x w) (hxn : ExP.nd 10 x.n ≤ 300) (hg : Nat.gcd x.n x.d = 1) (hxm : x.m = true → x.n ≠ 0)
    (P : Nat) (hP : (P : Int) = 4611686018427387904) (hd1 : x.d = 1) (hno : x.n ≤ P) :
    Calls Tryz.prog 43 #[x.val 10] w fun e w' => e = .returned (.tuple #[.int .i64 (if x.m = true then -(x.n : Int) else (x.n : Int)), .bool true]) ∧ Below w.heap.size w w' := by
  have hd : 0 < x.d := by omega
  have hxd : ExP.nd 10 x.d ≤ 300 := by rw [hd1, ExP.nd_one (by omega)]; omega
  have R1 := fun (w' : World) (h : Below w.heap.size w w') => rfrac_any x w' (Nat.lt_of_lt_of_le hw0 h.size) (hx.below h) hd (by omega) (by omega)
  obtain ⟨e1, e2⟩ := ExP.write_red (x := x.num) hd hxn hxd hg hxm
  rw [e1, e2] at R1
  obtain ⟨m, n, d, xa, xc, xb, xe⟩ := x
  dsimp only [FrV.num, FrV.val] at *
  subst hd1
  have eD : Lib.decDigits 1 = [49] := by rw [Lib.decDigits_one (by omega)]; rfl
  rw [eD] at R1
  have hlen : (Lib.decDigits n).length ≤ 19 := ExP.dec_len (ExP.nd_le (n := 19) (by omega) (by omega)) (by omega)
  have hsl := ExP.sign_len m (Lib.decDigits n)
  have TS := fun w' => trimSign_any (ExP.signP m (Lib.decDigits n)) w' (by omega)
  rw [ExP.sign_cut] at TS
  have N1 := fun w' => natOf_any (Lib.decDigits n) w' (by omega) (ExP.dec_digits _)
  have DP := fun w' => decimal_pos P (by omega) w'
  rw [hP] at DP
  have hPl : (Lib.decDigits P).length ≤ 1000000 := by have := dec_le P (by omega); omega
  have N2 := fun w' => natOf_any (Lib.decDigits P) w' hPl (ExP.dec_digits _)
  have hval := ExP.val_dec n
  have hdig := ExP.dec_digits n
  have hne := ExP.dec_ne n
  rw [ExP.val_dec] at N1 N2
  have hPn : ExP.nd 10 P ≤ 100000000 := Nat.le_trans (ExP.nd_le (n := 20) (by omega) (by omega)) (by omega)
  have CM := fun a c a2 c2 w' => rcompare_any a a2 c c2 n P w' (by omega) hPn
  have hcm : ¬ 0 < ExP.cmpS n P := by unfold ExP.cmpS; split <;> (try split) <;> omega
  have hL0 : 0 < (Lib.decDigits n).length := List.length_pos_iff.2 hne
  have hF0 : ((ExP.signP m (Lib.decDigits n)).getD 0 0).toNat = 45 ↔ m = true := by
    cases m with
    | true => exact ⟨fun _ => rfl, fun _ => rfl⟩
    | false =>
      have := ExP.digC_nat.1 (all_at hdig hL0)
      constructor
      · intro h; have h' : ((Lib.decDigits n).getD 0 0).toNat = 45 := h; omega
      · intro h; cases h
  generalize Lib.decDigits P = LP at *
  generalize hF : ExP.signP m (Lib.decDigits n) = F at *
  generalize Lib.decDigits n = L at *
  generalize ExP.cmpS n P = cv at *
  have hn63 : ExP.nd 10 1 = 1 := ExP.nd_one (by omega)
  refine enter env_ok Tryz.func43 rfl Tryz.results43 Tryz.ntmps43 [100040] [] [.agg [.bool m, .any (.slice xa (ExP.nd 10 n) xc), .any (.slice xb (ExP.nd 10 1) xe)]] ⟨⟨trivial, rfl, rfl, trivial⟩, trivial⟩ (Nat.le_of_ble_eq_true rfl) w _ 1000 ?_
  repeat' (first | ((with_reducible first | show wpS _ _ _ _ | show putD _ _ _ _ | show putW _ _ _ _ | show splitG _ _ _ | show wpQ _ _ _ _ _ _ | show wpD _ _ _ _ _ _ _ | show wpX _ _ _ _ _ _ _ | show expX _ _ _ _ _ _ | show stepX _ _ _ _ | show keepR _ _ _ | show wpY _ _ _ _); conv => whnf) | ((with_reducible show RetN _ _ _); refine retB fun β => ?_) | ((with_reducible show _ ∧ _); first | (apply And.intro; (· intro h; exfalso; first | omega | (revert h; decide)); intro _) | (apply And.intro; rotate_left; (· intro h; exfalso; first | omega | (revert h; decide)); intro _) | (refine ⟨fun _ => ?_, fun _ => ?_⟩) | (apply And.intro; · kernel_rfl) | (apply And.intro; · (show inK _ _; unfold inK; omega)) | (apply And.intro; · (show (_ : Int) ≤ 9223372036854775807; (try simp only [List.length_append, List.length_drop, List.length_take, List.length_cons, List.length_nil]); omega))) | ((with_reducible show AllBe _); refine allBe fun βe => ?_; conv => whnf) | ((with_reducible show bothX _ _); refine bothI ?_ ?_; conv => whnf) | (with_reducible exact trivial) | ((with_reducible show CallN _ _ _ _ _ _ _ _); refine call_of env_ok rfl 1000 ?_) | ((with_reducible show XopN _ _ _ _ _ _); refine xop_of env_ok rfl 1000 ?_) | ((with_reducible show CallX _ _ _ _ _ _); first | (refine callX (.tup [.agg [.str F, .str [49]], .int .i64 0]) (by kernel_rfl) rfl (⟨⟨trivial, trivial, trivial⟩, trivial, trivial⟩) (fun β w hm => R1 w hm.below) ?_) | (refine callX (.str LP) (by kernel_rfl) rfl (trivial) (fun β w hm => DP w) ?_) | (refine callNat .i64 10 P hw0 (by kernel_rfl) rfl (fun β w' hm => N2 w') (fun a1 c1 h1 h2 h3 => ?_)) | (refine callX (.str L) (by kernel_rfl) rfl (trivial) (fun β w hm => TS w) ?_) | (refine callNat .i64 10 n hw0 (by kernel_rfl) rfl (fun β w' hm => N1 w') (fun a2 c2 h4 h5 h6 => ?_)) | (refine callX (.int .i64 cv) (by kernel_rfl) rfl (trivial) (fun β w hm => CM a2 c2 a1 c1 w (hm.slF 3 rfl) (hm.slF 2 rfl)) ?_) | fail) | ((with_reducible show OpX _ _ _ _); first | (refine opx_strBytes L hw0 rfl rfl Tryz.underlying9 Tryz.underlying110 Tryz.underlying5 (fun g cap => ?_))) | ((with_reducible show ∃ _ : SV, _); first | (refine ⟨_, ?ok, x_len Tryz.underlying110, ?_⟩; (case ok => exact fun _ _ => trivial))) | ((with_reducible show ∃ _, _); first | (refine ⟨0, rfl, by omega, ?_⟩)))
  all_goals first | (exfalso; omega) | skip
  refine loop env_ok rfl (T := {t : Nat // t ≤ L.length}) (fun t => ⟨[(4, .ptr 1 0), (7, .int .i64 (ExP.valS (L.take t.1) : Nat)), (40, .any (.slice (some ⟨g, 0, none⟩) L.length cap)), (41, .int .i64 (L.length : Nat)), (42, .int .i64 (t.1 : Nat))], [(1, true, .cells 23 [.str F, .str [49]]), (4, false, .blob (SlF w.heap.size (some ⟨g, 0, none⟩) (bvals L)))], 5, 60⟩) (fun t => L.length - t.1) ⟨0, Nat.zero_le _⟩ 1000 [] [] (fun _ => by exact Nat.zero_le _) (by dsimp only; rw [List.take_zero]; ((with_reducible show wk _ _); repeat' (first | exact trivial | exact eqSV_refl _ | (refine eqI ?_) | (refine eqS ?_) | (with_reducible exact rfl) | apply And.intro | exact Nat.zero_lt_one | exact Nat.le_of_ble_eq_true rfl | (with_reducible assumption) | ((show (_ : Int) = _); (try dsimp only); omega) | ((show eqSV _ _); simp [eqSV, isB, bval, *]; done) | rfl)); all_goals exact fun b x h => h) (fun t I hI => ?_)
  obtain ⟨i, hi⟩ := t
  dsimp only
  have k1 := ExP.take_le (s := L) i
  rw [hval] at k1
  by_cases hlt : i < L.length
  · have k2 := ExP.take_le (s := L) (i + 1)
    rw [hval, ExP.valF_take L i hlt] at k2
    have hdd := ExP.digC_nat.1 (all_at hdig hlt)
    repeat' (first | ((with_reducible first | show wpS _ _ _ _ | show putD _ _ _ _ | show putW _ _ _ _ | show splitG _ _ _ | show wpQ _ _ _ _ _ _ | show wpD _ _ _ _ _ _ _ | show wpX _ _ _ _ _ _ _ | show expX _ _ _ _ _ _ | show stepX _ _ _ _ | show keepR _ _ _ | show wpY _ _ _ _); conv => whnf) | ((with_reducible show RetN _ _ _); refine retB fun β => ?_) | ((with_reducible show _ ∧ _); first | (apply And.intro; (· intro h; exfalso; first | omega | (revert h; decide)); intro _) | (apply And.intro; rotate_left; (· intro h; exfalso; first | omega | (revert h; decide)); intro _) | (refine ⟨fun _ => ?_, fun _ => ?_⟩) | (apply And.intro; · kernel_rfl) | (apply And.intro; · (show inK _ _; unfold inK; omega)) | (apply And.intro; · (show (_ : Int) ≤ 9223372036854775807; (try simp only [List.length_append, List.length_drop, List.length_take, List.length_cons, List.length_nil]); omega))) | ((with_reducible show AllBe _); refine allBe fun βe => ?_; conv => whnf) | ((with_reducible show bothX _ _); refine bothI ?_ ?_; conv => whnf) | (with_reducible exact trivial) | ((with_reducible show CallN _ _ _ _ _ _ _ _); refine call_of env_ok rfl 1000 ?_) | ((with_reducible show XopN _ _ _ _ _ _); refine xop_of env_ok rfl 1000 ?_) | ((with_reducible show CallX _ _ _ _ _ _); first | fail) | ((with_reducible show OpX _ _ _ _); first | fail) | ((with_reducible show ∃ _ : SV, _); first | (refine ⟨_, ?ok, x_index (j := i) (by omega) Tryz.underlying110 (fun w => Tryz.sizeOf5 w) (by omega), ?_⟩; (case ok => exact fun _ _ => rfl)) | (refine ⟨.int .u8 ((L.getD i 0).toNat : Int), fun _ _ => trivial, x_loadF 4 (.int .u8 ((L.getD i 0).toNat : Int)) (fun w => Tryz.isAgg5 w) rfl (fun β => by rw [Nat.mul_one]; exact bvals_get hlt), ?_⟩)) | ((with_reducible show ∃ _, _); first | fail))
    all_goals first | (exfalso; omega) | exact hI _ ⟨i + 1, by omega⟩ (by dsimp only; omega) (by dsimp only; rw [ExP.valF_take L i hlt]; ((with_reducible show wk _ _); repeat' (first | exact trivial | exact eqSV_refl _ | (refine eqI ?_) | (refine eqS ?_) | (with_reducible exact rfl) | apply And.intro | exact Nat.zero_lt_one | exact Nat.le_of_ble_eq_true rfl | (with_reducible assumption) | ((show (_ : Int) = _); (try dsimp only); omega) | ((show eqSV _ _); simp [eqSV, isB, bval, *]; done) | rfl)); all_goals exact fun b x h => h)
  · have e : L.take i = L := List.take_of_length_le (by omega)
    rw [e, hval]
    repeat' (first | ((with_reducible first | show wpS _ _ _ _ | show putD _ _ _ _ | show putW _ _ _ _ | show splitG _ _ _ | show wpQ _ _ _ _ _ _ | show wpD _ _ _ _ _ _ _ | show wpX _ _ _ _ _ _ _ | show expX _ _ _ _ _ _ | show stepX _ _ _ _ | show keepR _ _ _ | show wpY _ _ _ _); conv => whnf) | ((with_reducible show RetN _ _ _); refine retB fun β => ?_) | ((with_reducible show _ ∧ _); first | (apply And.intro; (· intro h; exfalso; first | omega | (revert h; decide)); intro _) | (apply And.intro; rotate_left; (· intro h; exfalso; first | omega | (revert h; decide)); intro _) | (refine ⟨fun _ => ?_, fun _ => ?_⟩) | (apply And.intro; · kernel_rfl) | (apply And.intro; · (show inK _ _; unfold inK; omega)) | (apply And.intro; · (show (_ : Int) ≤ 9223372036854775807; (try simp only [List.length_append, List.length_drop, List.length_take, List.length_cons, List.length_nil]); omega))) | ((with_reducible show AllBe _); refine allBe fun βe => ?_; conv => whnf) | ((with_reducible show bothX _ _); refine bothI ?_ ?_; conv => whnf) | (with_reducible exact trivial) | ((with_reducible show CallN _ _ _ _ _ _ _ _); refine call_of env_ok rfl 1000 ?_) | ((with_reducible show XopN _ _ _ _ _ _); refine xop_of env_ok rfl 1000 ?_) | ((with_reducible show CallX _ _ _ _ _ _); first | fail) | ((with_reducible show OpX _ _ _ _); first | fail) | ((with_reducible show ∃ _ : SV, _); first | fail) | ((with_reducible show ∃ _, _); first | (refine ⟨0, rfl, by omega, ?_⟩)))
    · rw [if_pos (hF0.1 (by omega)), ← Int.zero_sub]; rfl
    · rw [if_neg (fun h => by have := hF0.2 h; omega)]; rfl
end Go.Proofs.YtfodbfbljeeojaaGreatDoor
