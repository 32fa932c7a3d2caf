/- Values, the reference: errors of values. Values, the reference: errors of arrays; every value. Values, the reference: texts compared. Values, the program: the makers of values; values held against each other. -/
import Derived.Test.YtdkhkfdenlabaaaGreatDoorKGJ
import Derived.Test.YtdkhkfdenlabaaaGreatDoorKGT
set_option linter.unusedSimpArgs false
set_option linter.unusedVariables false
namespace Go.Proofs.YtdkhkfdenlabaaaGreatDoor
open Go.RowKit
open Sym
attribute [local irreducible] Calls Sym.AggEq ExP.nd ExP.dig ExP.upd ExP.writeF ExP.writeE
set_option maxRecDepth 100000 in
theorem only_any (k kd : Int) (z : Bool) (g : Nat) (w : World) (h : w.cell? ⟨g, 0, none⟩ = some (.int .i64 kd)) : Calls Tryz.prog 72 #[.int .i64 k, .bool z, .pointer (some ⟨g, 0, none⟩)] w fun e w' => e = .returned (.bool (decide (kd = k) || z)) ∧ Below w.heap.size w w' := by
  have hc : ∀ w', Below w.heap.size w w' → w'.cell? ((⟨g, 0, none⟩ : Addr).add 0) = some (.int .i64 kd) := fun w' hb => cell_below h hb
  refine enter env_ok Tryz.func72 rfl Tryz.results72 Tryz.ntmps72 [] [] [.int .i64 k, .bool z, .any (.pointer (some ⟨g, 0, none⟩))] ⟨trivial, trivial, rfl, trivial⟩ (Nat.le_of_ble_eq_true rfl) w _ 1000 ?_
  repeat' (first | ((with_reducible first | show wpS .. | show putD .. | show putW .. | show splitG .. | show wpQ .. | show wpD .. | show wpX .. | show expX .. | show stepX .. | show keepR .. | show wpY ..); conv => whnf) | ((with_reducible show RetN ..); refine retB fun β => ?_) | ((with_reducible show _ ∧ _); first | (refine ⟨fun h => absurd h (by first | omega | decide), fun _ => ?_⟩) | (refine ⟨fun _ => ?_, fun h => absurd h (by first | omega | decide)⟩) | (refine ⟨fun _ => ?_, fun _ => ?_⟩) | (apply And.intro; · kernel_rfl) | (apply And.intro; · (show inK _ _; unfold inK; omega)) | (apply And.intro; · (show (_ : Int) ≤ 9223372036854775807; (try simp only [lenS]); omega))) | ((with_reducible show AllBe ..); refine allBe fun βe => ?_; conv => whnf) | ((with_reducible show bothX ..); refine bothI ?_ ?_; conv => whnf) | (with_reducible exact trivial) | ((with_reducible show CallN ..); refine call_of env_ok rfl 1000 ?_) | ((with_reducible show XopN ..); refine xop_of env_ok rfl 1000 ?_) | ((with_reducible show CallX ..); first | fail) | ((with_reducible show OpX ..); first | fail) | ((with_reducible show ∃ _ : SV, _); first | (refine ⟨_, ?ok, x_field Tryz.underlying28 rfl (fun w => Tryz.sizeOf3 w) (by decide), ?_⟩; (case ok => exact fun _ _ => rfl)) | (refine ⟨.int .i64 kd, fun _ _ => trivial, x_load1 (fun w => Tryz.isAgg3 w) (fun w' hb β => hc w' hb), ?_⟩)) | ((with_reducible show ∃ _, _); first | fail))
  all_goals first | (simp_all [SV.den]; done) | trace_state
theorem row0_cell {C : Ctx} {rows : List (Nat × Bool × SRow)} {nx : Nat} {β : Nat → Nat} {w : World} {o : Bool} {t : TypeId} {cs : List SV} {i : Nat} {v : SV} (hm : Mem C.base C.w0 rows nx β w) (h : get rows i = some (o, .cells t cs)) (hv : cs[0]? = some v) : w.cell? ⟨β i, 0, none⟩ = some (v.den β) := by
  have k1 := (hm.row i o _ h).1
  have k1 : Row w (β i) t (SV.dens β cs).toArray := k1
  rw [k1.cell]
  have := SV.dens_get β cs 0
  rw [hv] at this
  simpa using this
theorem fracAggB (a b : List UInt8) (FZ : Bool) (h : FZ = decide (a = [] ∧ b = [])) : AggEq Tryz.prog 25 [.str a, .str b] [.str [], .str []] FZ := by
  by_cases hf : a = [] ∧ b = []
  · rw [h, decide_eq_true hf]; obtain ⟨rfl, rfl⟩ := hf; exact fracAggT _ _
  · rw [h, decide_eq_false hf]; exact fracAggF hf
set_option maxRecDepth 100000 in
set_option maxHeartbeats 8000000 in
theorem rverr_test (t : VaP.VT) (a : Option Addr) (cap : Nat) (w : World) (hw : XV w) (hr : XR w) (hf : t.Fit) (h5 : t.kind ≠ 5) (FZ : Bool) (hFZ : FZ = decide (t.num.1 = [] ∧ t.num.2 = [])) (V NE TE : Int)
    (hR : (t.kind < 0 ∨ 5 < t.kind) → V = 8) (hB : ¬ (t.kind < 0 ∨ 5 < t.kind) → VaP.zBad t → V = 4)
    (hO : ¬ (t.kind < 0 ∨ 5 < t.kind) → ¬ VaP.zBad t → V = if t.kind = 1 then NE else if t.kind = 2 then TE else if t.kind = 4 ∧ (t.code < 1 ∨ 8 < t.code) then 2 else 0)
    (N : ∀ w', Below w.heap.size w w' → Calls Tryz.prog 73 #[.agg #[.string (bstr t.num.1), .string (bstr t.num.2)]] w' fun e w'' => e = .returned (.int .i64 NE) ∧ Below w'.heap.size w' w'')
    (T : ∀ w', Below w.heap.size w w' → Calls Tryz.prog 61 #[.string (bstr t.text)] w' fun e w'' => e = .returned (.int .i64 TE) ∧ Below w'.heap.size w' w'') :
    Calls Tryz.prog 14 #[vtV t a cap] w fun e w' => e = .returned (.int .i64 V) ∧ Below w.heap.size w w' := by
  have F := fun (w' : World) (h : Below w.heap.size w w') => rftext_any t.code w' (hr.below h)
  have hF := ftextI_nil t.code
  obtain ⟨k, ⟨n1, n2⟩, tx, on, cd, rw', cl, its⟩ := t
  unfold vtV
  unfold VaP.zBad at hB hO
  dsimp only at *
  have hFZ' : FZ = true ↔ (n1 = [] ∧ n2 = []) := by rw [hFZ, decide_eq_true_eq]
  have hagg := fracAggB n1 n2 FZ hFZ
  clear hFZ hf hw hr
  generalize VaP.ftextI cd = FT at *
  generalize its.length = n at *
  refine enter env_ok Tryz.func14 rfl Tryz.results14 Tryz.ntmps14 [] [] [.agg [.int .i64 k, .str n1, .str n2, .str tx, .bool on, .int .i64 cd, .int .i64 rw', .int .i64 cl, .any (.slice a n cap)]] ⟨⟨trivial, trivial, trivial, trivial, trivial, trivial, trivial, trivial, rfl, trivial⟩, trivial⟩ (Nat.le_of_ble_eq_true rfl) w _ 1000 ?_
  repeat' (first | ((with_reducible first | show wpS .. | show putD .. | show putW .. | show splitG .. | show wpQ .. | show wpD .. | show wpX .. | show expX .. | show stepX .. | show keepR .. | show wpY ..); conv => whnf) | ((with_reducible show RetN ..); refine retB fun β => ?_) | ((with_reducible show _ ∧ _); first | (refine ⟨fun h => absurd h (by first | omega | decide), fun _ => ?_⟩) | (refine ⟨fun _ => ?_, fun h => absurd h (by first | omega | decide)⟩) | (refine ⟨fun _ => ?_, fun _ => ?_⟩) | (apply And.intro; · kernel_rfl) | (apply And.intro; · (show inK _ _; unfold inK; omega)) | (apply And.intro; · (show (_ : Int) ≤ 9223372036854775807; (try simp only [lenS]); omega))) | ((with_reducible show AllBe ..); refine allBe fun βe => ?_; conv => whnf) | ((with_reducible show bothX ..); refine bothI ?_ ?_; conv => whnf) | (with_reducible exact trivial) | ((with_reducible show CallN ..); refine call_of env_ok rfl 1000 ?_) | ((with_reducible show XopN ..); refine xop_of env_ok rfl 1000 ?_) | ((with_reducible show CallX ..); first | (refine callX (.bool (decide (k = 1) || FZ)) (by kernel_rfl) rfl (trivial) (fun β w hm => only_any 1 k (FZ) (β 0) w (row0_cell (i := 0) (v := .int .i64 k) hm rfl rfl)) ?_) | (refine callX (.bool (decide (k = 2) || decide (tx = []))) (by kernel_rfl) rfl (trivial) (fun β w hm => only_any 2 k (decide (tx = [])) (β 0) w (row0_cell (i := 0) (v := .int .i64 k) hm rfl rfl)) ?_) | (refine callX (.bool (decide (k = 3) || !on)) (by kernel_rfl) rfl (trivial) (fun β w hm => only_any 3 k (!on) (β 0) w (row0_cell (i := 0) (v := .int .i64 k) hm rfl rfl)) ?_) | (refine callX (.bool (decide (k = 4) || decide (cd = 0))) (by kernel_rfl) rfl (trivial) (fun β w hm => only_any 4 k (decide (cd = 0)) (β 0) w (row0_cell (i := 0) (v := .int .i64 k) hm rfl rfl)) ?_) | (refine callX (.bool (decide (k = 5) || false)) (by kernel_rfl) rfl (trivial) (fun β w hm => only_any 5 k (false) (β 0) w (row0_cell (i := 0) (v := .int .i64 k) hm rfl rfl)) ?_) | (refine callX (.bool (decide (k = 5) || decide ((n : Int) = 0))) (by kernel_rfl) rfl (trivial) (fun β w hm => only_any 5 k (decide ((n : Int) = 0)) (β 0) w (row0_cell (i := 0) (v := .int .i64 k) hm rfl rfl)) ?_) | (refine callX (.int .i64 NE) (by kernel_rfl) rfl (trivial) (fun β w hm => N w hm.below) ?_) | (refine callX (.int .i64 TE) (by kernel_rfl) rfl (trivial) (fun β w hm => T w hm.below) ?_) | (refine callX (.str FT) (by kernel_rfl) rfl (trivial) (fun β w hm => F w hm.below) ?_) | fail) | ((with_reducible show OpX ..); first | fail) | ((with_reducible show ∃ _ : SV, _); first | (refine ⟨_, ?ok, x_len Tryz.underlying26, ?_⟩; (case ok => exact fun _ _ => trivial)) | (refine ⟨_, ?ok, x_func, ?_⟩; (case ok => exact fun _ h => h))) | ((with_reducible show ∃ _, _); first | (refine ⟨FZ, hagg, ?_⟩) | fail))
  all_goals clear N T F hagg
  all_goals first | (rw [hR (by omega)]; rfl) | (rw [hB (by omega) (by clear hB hO hR; simp_all; try omega)]; rfl) | skip
  all_goals first | (exfalso; clear hB hO hR; simp_all; done) | (rw [hO (by omega) (by clear hB hO hR; simp_all; try omega), if_pos (by assumption : k = 1)]; rfl) | (rw [hO (by omega) (by clear hB hO hR; simp_all; try omega), if_neg (by assumption : ¬ k = 1), if_pos (by assumption : k = 2)]; rfl) | (rw [hO (by omega) (by clear hB hO hR; simp_all; try omega), if_neg (by assumption : ¬ k = 1), if_neg (by assumption : ¬ k = 2), if_pos ⟨(by assumption : k = 4), hF.1 (by assumption)⟩]; rfl) | (rw [hO (by omega) (by clear hB hO hR; simp_all; try omega), if_neg (by assumption : ¬ k = 1), if_neg (by assumption : ¬ k = 2), if_neg (fun h => (by assumption : ¬ FT = []) (hF.2 h.2))]; rfl) | (rw [hO (by omega) (by clear hB hO hR; simp_all; try omega), if_neg (by assumption : ¬ k = 1), if_neg (by assumption : ¬ k = 2), if_neg (fun h => (by assumption : ¬ k = 4) h.1)]; rfl) | trace_state
theorem rverr_sc (t : VaP.VT) (a : Option Addr) (cap : Nat) (w : World) (hw : XV w) (hr : XR w) (hf : t.Fit) (h5 : t.kind ≠ 5) : Calls Tryz.prog 14 #[vtV t a cap] w fun e w' => e = .returned (.int .i64 (VaP.vErr0 t)) ∧ Below w.heap.size w w' :=
  rverr_test t a cap w hw hr hf h5 _ rfl (VaP.vErr0 t) (ExP.readE t.num) (VaP.txtE t.text) vErr0_range (fun h1 h2 => vErr0_bad h1 h2) (fun h1 h2 => vErr0_ok h1 h2)
    (fun w' h => fracError_any t.num w' (hw.below h).pos hf.n1 hf.n2) (fun w' _ => rtexterr_any t.text w' hf.tx)
end Go.Proofs.YtdkhkfdenlabaaaGreatDoor
namespace Go.Proofs.YtdkhkfdenlabaaaGreatDoor
open Go.RowKit
open Sym
attribute [local irreducible] Calls Sym.AggEq ExP.nd ExP.dig ExP.upd ExP.writeF ExP.writeE
set_option maxRecDepth 100000 in
set_option maxHeartbeats 8000000 in
theorem rverr_arr (t : VaP.VT) (a : Option Addr) (cap : Nat) (w : World) (hw : XV w) (hr : XR w) (ht : VIn w t a cap) (h5 : t.kind = 5) (FZ : Bool) (hFZ : FZ = decide (t.num.1 = [] ∧ t.num.2 = [])) (V : Int) (hB : VaP.zBad t → V = 4) (hO : ¬ VaP.zBad t → V = VaP.arrE t) :
    Calls Tryz.prog 14 #[vtV t a cap] w fun e w' => e = .returned (.int .i64 V) ∧ Below w.heap.size w w' := by
  cases ht with
  | mk t a cap ps hf hc hn hi hs =>
  have hE : VaP.arrE t = if t.rows < 1 ∨ 100000 < t.rows ∨ t.cols < 1 ∨ 100000 < t.cols then 2 else if 100000 < t.rows * t.cols then 3 else if (t.items.length : Int) ≠ t.rows * t.cols then 4 else VaP.itsE t.items := rfl
  rw [hE] at hO
  have C := fun (i : Nat) (x : VaP.VT) (hx : t.items[i]? = some x) (h5 : x.kind ≠ 5) (w' : World) (h : Below w.heap.size w w') => rverr_sc x (ps i).1 (ps i).2 w' (hw.below h) (hr.below h) (hi i x hx).fit h5
  clear hf hn hi hE
  obtain ⟨k, ⟨n1, n2⟩, tx, on, cd, R, L, its⟩ := t
  unfold vtV at *
  unfold VaP.zBad at hB hO
  dsimp only at *
  subst h5
  have hFZ' : FZ = true ↔ (n1 = [] ∧ n2 = []) := by rw [hFZ, decide_eq_true_eq]
  have hagg := fracAggB n1 n2 FZ hFZ
  clear hFZ hw hr
  have hmul : ¬ (R < 1 ∨ 100000 < R ∨ L < 1 ∨ 100000 < L) → 1 ≤ R * L ∧ R * L ≤ 10000000000 := fun h => by
    have h1 : 1 ≤ R := by omega
    have h2 : 1 ≤ L := by omega
    have h3 : R * L ≤ 100000 * 100000 := Int.mul_le_mul (by omega) (by omega) (by omega) (by omega)
    have h4 : 1 * 1 ≤ R * L := Int.mul_le_mul h1 h2 (by omega) (by omega)
    omega
  generalize hn : its.length = n at *
  by_cases hz : (5 : Int) ≠ 1 ∧ ¬ (n1 = [] ∧ n2 = []) ∨ (5 : Int) ≠ 2 ∧ tx ≠ [] ∨ (5 : Int) ≠ 3 ∧ on = true ∨ (5 : Int) ≠ 4 ∧ cd ≠ 0 ∨ (5 : Int) ≠ 5 ∧ (R ≠ 0 ∨ L ≠ 0 ∨ n ≠ 0)
  · rw [hB hz]
    clear hB hO hmul C hs
    refine enter env_ok Tryz.func14 rfl Tryz.results14 Tryz.ntmps14 [] [] [.agg [.int .i64 5, .str n1, .str n2, .str tx, .bool on, .int .i64 cd, .int .i64 R, .int .i64 L, .any (.slice a n cap)]] ⟨⟨trivial, trivial, trivial, trivial, trivial, trivial, trivial, trivial, rfl, trivial⟩, trivial⟩ (Nat.le_of_ble_eq_true rfl) w _ 1000 ?_
    repeat' (first | ((with_reducible first | show wpS .. | show putD .. | show putW .. | show splitG .. | show wpQ .. | show wpD .. | show wpX .. | show expX .. | show stepX .. | show keepR .. | show wpY ..); conv => whnf) | ((with_reducible show RetN ..); refine retB fun β => ?_) | ((with_reducible show _ ∧ _); first | (refine ⟨fun h => absurd h (by first | omega | decide), fun _ => ?_⟩) | (refine ⟨fun _ => ?_, fun h => absurd h (by first | omega | decide)⟩) | (refine ⟨fun _ => ?_, fun _ => ?_⟩) | (apply And.intro; · kernel_rfl) | (apply And.intro; · (show inK _ _; unfold inK; omega)) | (apply And.intro; · (show (_ : Int) ≤ 9223372036854775807; (try simp only [lenS]); omega))) | ((with_reducible show AllBe ..); refine allBe fun βe => ?_; conv => whnf) | ((with_reducible show bothX ..); refine bothI ?_ ?_; conv => whnf) | (with_reducible exact trivial) | ((with_reducible show CallN ..); refine call_of env_ok rfl 1000 ?_) | ((with_reducible show XopN ..); refine xop_of env_ok rfl 1000 ?_) | ((with_reducible show CallX ..); first | (refine callX (.bool (decide (5 = 1) || FZ)) (by kernel_rfl) rfl (trivial) (fun β w hm => only_any 1 5 (FZ) (β 0) w (row0_cell (i := 0) (v := .int .i64 5) hm rfl rfl)) ?_) | (refine callX (.bool (decide (5 = 2) || decide (tx = []))) (by kernel_rfl) rfl (trivial) (fun β w hm => only_any 2 5 (decide (tx = [])) (β 0) w (row0_cell (i := 0) (v := .int .i64 5) hm rfl rfl)) ?_) | (refine callX (.bool (decide (5 = 3) || !on)) (by kernel_rfl) rfl (trivial) (fun β w hm => only_any 3 5 (!on) (β 0) w (row0_cell (i := 0) (v := .int .i64 5) hm rfl rfl)) ?_) | (refine callX (.bool (decide (5 = 4) || decide (cd = 0))) (by kernel_rfl) rfl (trivial) (fun β w hm => only_any 4 5 (decide (cd = 0)) (β 0) w (row0_cell (i := 0) (v := .int .i64 5) hm rfl rfl)) ?_) | (refine callX (.bool (decide (5 = 5) || false)) (by kernel_rfl) rfl (trivial) (fun β w hm => only_any 5 5 (false) (β 0) w (row0_cell (i := 0) (v := .int .i64 5) hm rfl rfl)) ?_) | (refine callX (.bool (decide (5 = 5) || decide ((n : Int) = 0))) (by kernel_rfl) rfl (trivial) (fun β w hm => only_any 5 5 (decide ((n : Int) = 0)) (β 0) w (row0_cell (i := 0) (v := .int .i64 5) hm rfl rfl)) ?_) | fail) | ((with_reducible show OpX ..); first | fail) | ((with_reducible show ∃ _ : SV, _); first | (refine ⟨_, ?ok, x_len Tryz.underlying26, ?_⟩; (case ok => exact fun _ _ => trivial)) | (refine ⟨_, ?ok, x_func, ?_⟩; (case ok => exact fun _ h => h))) | ((with_reducible show ∃ _, _); first | (refine ⟨FZ, hagg, ?_⟩) | fail))
    all_goals clear hagg
    all_goals first | rfl | (exfalso; simp_all; done) | (exfalso; simp_all; omega) | trace_state
  have hO := hO hz
  clear hB
  by_cases hb : R < 1 ∨ 100000 < R ∨ L < 1 ∨ 100000 < L
  · clear hmul C hs
    rw [if_pos hb] at hO
    rw [hO]
    clear hO
    refine enter env_ok Tryz.func14 rfl Tryz.results14 Tryz.ntmps14 [] [] [.agg [.int .i64 5, .str n1, .str n2, .str tx, .bool on, .int .i64 cd, .int .i64 R, .int .i64 L, .any (.slice a n cap)]] ⟨⟨trivial, trivial, trivial, trivial, trivial, trivial, trivial, trivial, rfl, trivial⟩, trivial⟩ (Nat.le_of_ble_eq_true rfl) w _ 1000 ?_
    repeat' (first | ((with_reducible first | show wpS .. | show putD .. | show putW .. | show splitG .. | show wpQ .. | show wpD .. | show wpX .. | show expX .. | show stepX .. | show keepR .. | show wpY ..); conv => whnf) | ((with_reducible show RetN ..); refine retB fun β => ?_) | ((with_reducible show _ ∧ _); first | (refine ⟨fun h => absurd h (by first | omega | decide), fun _ => ?_⟩) | (refine ⟨fun _ => ?_, fun h => absurd h (by first | omega | decide)⟩) | (refine ⟨fun _ => ?_, fun _ => ?_⟩) | (apply And.intro; · kernel_rfl) | (apply And.intro; · (show inK _ _; unfold inK; omega)) | (apply And.intro; · (show (_ : Int) ≤ 9223372036854775807; (try simp only [lenS]); omega))) | ((with_reducible show AllBe ..); refine allBe fun βe => ?_; conv => whnf) | ((with_reducible show bothX ..); refine bothI ?_ ?_; conv => whnf) | (with_reducible exact trivial) | ((with_reducible show CallN ..); refine call_of env_ok rfl 1000 ?_) | ((with_reducible show XopN ..); refine xop_of env_ok rfl 1000 ?_) | ((with_reducible show CallX ..); first | (refine callX (.bool (decide (5 = 1) || FZ)) (by kernel_rfl) rfl (trivial) (fun β w hm => only_any 1 5 (FZ) (β 0) w (row0_cell (i := 0) (v := .int .i64 5) hm rfl rfl)) ?_) | (refine callX (.bool (decide (5 = 2) || decide (tx = []))) (by kernel_rfl) rfl (trivial) (fun β w hm => only_any 2 5 (decide (tx = [])) (β 0) w (row0_cell (i := 0) (v := .int .i64 5) hm rfl rfl)) ?_) | (refine callX (.bool (decide (5 = 3) || !on)) (by kernel_rfl) rfl (trivial) (fun β w hm => only_any 3 5 (!on) (β 0) w (row0_cell (i := 0) (v := .int .i64 5) hm rfl rfl)) ?_) | (refine callX (.bool (decide (5 = 4) || decide (cd = 0))) (by kernel_rfl) rfl (trivial) (fun β w hm => only_any 4 5 (decide (cd = 0)) (β 0) w (row0_cell (i := 0) (v := .int .i64 5) hm rfl rfl)) ?_) | (refine callX (.bool (decide (5 = 5) || false)) (by kernel_rfl) rfl (trivial) (fun β w hm => only_any 5 5 (false) (β 0) w (row0_cell (i := 0) (v := .int .i64 5) hm rfl rfl)) ?_) | (refine callX (.bool (decide (5 = 5) || decide ((n : Int) = 0))) (by kernel_rfl) rfl (trivial) (fun β w hm => only_any 5 5 (decide ((n : Int) = 0)) (β 0) w (row0_cell (i := 0) (v := .int .i64 5) hm rfl rfl)) ?_) | fail) | ((with_reducible show OpX ..); first | fail) | ((with_reducible show ∃ _ : SV, _); first | (refine ⟨_, ?ok, x_len Tryz.underlying26, ?_⟩; (case ok => exact fun _ _ => trivial)) | (refine ⟨_, ?ok, x_func, ?_⟩; (case ok => exact fun _ h => h))) | ((with_reducible show ∃ _, _); first | (refine ⟨FZ, hagg, ?_⟩) | fail))
    all_goals clear hagg
    all_goals first | rfl | (exfalso; omega) | (exfalso; simp_all; done) | (exfalso; simp_all; omega) | trace_state
  · have hm := hmul hb
    clear hmul
    rw [if_neg hb] at hO
    refine enter env_ok Tryz.func14 rfl Tryz.results14 Tryz.ntmps14 [] [] [.agg [.int .i64 5, .str n1, .str n2, .str tx, .bool on, .int .i64 cd, .int .i64 R, .int .i64 L, .any (.slice a n cap)]] ⟨⟨trivial, trivial, trivial, trivial, trivial, trivial, trivial, trivial, rfl, trivial⟩, trivial⟩ (Nat.le_of_ble_eq_true rfl) w _ 1000 ?_
    repeat' (first | ((with_reducible first | show wpS .. | show putD .. | show putW .. | show splitG .. | show wpQ .. | show wpD .. | show wpX .. | show expX .. | show stepX .. | show keepR .. | show wpY ..); conv => whnf) | ((with_reducible show RetN ..); refine retB fun β => ?_) | ((with_reducible show _ ∧ _); first | (refine ⟨fun h => absurd h (by first | omega | decide), fun _ => ?_⟩) | (refine ⟨fun _ => ?_, fun h => absurd h (by first | omega | decide)⟩) | (refine ⟨fun _ => ?_, fun _ => ?_⟩) | (apply And.intro; · kernel_rfl) | (apply And.intro; · (show inK _ _; unfold inK; omega)) | (apply And.intro; · (show (_ : Int) ≤ 9223372036854775807; (try simp only [lenS]); omega))) | ((with_reducible show AllBe ..); refine allBe fun βe => ?_; conv => whnf) | ((with_reducible show bothX ..); refine bothI ?_ ?_; conv => whnf) | (with_reducible exact trivial) | ((with_reducible show CallN ..); refine call_of env_ok rfl 1000 ?_) | ((with_reducible show XopN ..); refine xop_of env_ok rfl 1000 ?_) | ((with_reducible show CallX ..); first | (refine callX (.bool (decide (5 = 1) || FZ)) (by kernel_rfl) rfl (trivial) (fun β w hm => only_any 1 5 (FZ) (β 0) w (row0_cell (i := 0) (v := .int .i64 5) hm rfl rfl)) ?_) | (refine callX (.bool (decide (5 = 2) || decide (tx = []))) (by kernel_rfl) rfl (trivial) (fun β w hm => only_any 2 5 (decide (tx = [])) (β 0) w (row0_cell (i := 0) (v := .int .i64 5) hm rfl rfl)) ?_) | (refine callX (.bool (decide (5 = 3) || !on)) (by kernel_rfl) rfl (trivial) (fun β w hm => only_any 3 5 (!on) (β 0) w (row0_cell (i := 0) (v := .int .i64 5) hm rfl rfl)) ?_) | (refine callX (.bool (decide (5 = 4) || decide (cd = 0))) (by kernel_rfl) rfl (trivial) (fun β w hm => only_any 4 5 (decide (cd = 0)) (β 0) w (row0_cell (i := 0) (v := .int .i64 5) hm rfl rfl)) ?_) | (refine callX (.bool (decide (5 = 5) || false)) (by kernel_rfl) rfl (trivial) (fun β w hm => only_any 5 5 (false) (β 0) w (row0_cell (i := 0) (v := .int .i64 5) hm rfl rfl)) ?_) | (refine callX (.bool (decide (5 = 5) || decide ((n : Int) = 0))) (by kernel_rfl) rfl (trivial) (fun β w hm => only_any 5 5 (decide ((n : Int) = 0)) (β 0) w (row0_cell (i := 0) (v := .int .i64 5) hm rfl rfl)) ?_) | fail) | ((with_reducible show OpX ..); first | fail) | ((with_reducible show ∃ _ : SV, _); first | (refine ⟨_, ?ok, x_len Tryz.underlying26, ?_⟩; (case ok => exact fun _ _ => trivial)) | (refine ⟨_, ?ok, x_func, ?_⟩; (case ok => exact fun _ h => h))) | ((with_reducible show ∃ _, _); first | (refine ⟨FZ, hagg, ?_⟩) | fail))
    all_goals clear hagg
    all_goals first | (exfalso; omega) | (rw [hO, if_pos (by assumption)]; rfl) | (rw [hO, if_neg (by assumption), if_pos (fun h => (by assumption : ¬ R * L = (n : Int)) h.symm)]; rfl) | (exfalso; clear hs C hO; simp_all; done) | skip
    all_goals rw [if_neg (by omega), if_neg (by omega)] at hO
    all_goals rw [hO]
    all_goals clear hO
    refine loop env_ok rfl (T := {i : Nat // i ≤ n ∧ VaP.itsE (its.take i) = 0}) (fun t => ⟨[(131, .any (.slice a n cap)), (132, .int .i64 (n : Nat)), (133, .int .i64 (t.1 : Nat))], [], 0, 146⟩) (fun t => n - t.1) ⟨0, Nat.zero_le _, by simp [VaP.itsE]⟩ 1000 [] [] (fun _ => Nat.zero_le _) (by ((with_reducible show wk _ _); repeat' (first | exact trivial | exact eqSV_refl _ | (refine eqI ?_) | (refine eqS ?_) | (with_reducible exact rfl) | apply And.intro | exact Nat.zero_lt_one | exact Nat.le_of_ble_eq_true rfl | (with_reducible assumption) | ((show (_ : Int) = _); (try dsimp only); omega) | ((show eqSV _ _); simp [eqSV, isB, bval, *]; done) | rfl))) (fun t I hI => ?_)
    obtain ⟨i, hi, hzz⟩ := t
    dsimp only
    by_cases hlt : i < n
    · obtain ⟨x, hx⟩ : ∃ x, its[i]? = some x := ⟨its[i]'(by omega), List.getElem?_eq_getElem (by omega)⟩
      obtain ⟨ad, rfl, hblk, hcell⟩ := hs i x hx
      have hat := itsE_at hzz hx
      have hnx := itsE_next hzz hx
      have Cx := C i x hx
      have hiE : VaP.itE x = if x.kind = 5 then 8 else VaP.vErr0 x := rfl
      have hld : ∀ w', Below w.heap.size w w' → ∀ (β : Nat → Nat) (j : Nat) (v : Value), (SV.dens β [.int .i64 x.kind, .str x.num.1, .str x.num.2, .str x.text, .bool x.on, .int .i64 x.code, .int .i64 x.rows, .int .i64 x.cols, .any (.slice (ps i).1 x.items.length (ps i).2)])[j]? = some v → w'.cell? ((ad.add (i * 9)).add j) = some v := fun w' hb β j v hv => by
        rw [Go.Deep.add_add]
        exact cell_below (hcell j v hv) hb
      unfold vtV at Cx
      clear hs C hcell hx hb hm hz hFZ'
      generalize (ps i).1 = p1 at *
      generalize (ps i).2 = p2 at *
      generalize VaP.vErr0 x = XE at *
      generalize VaP.itE x = IE at *
      obtain ⟨xk, ⟨m1, m2⟩, xt, xo, xc, xr, xl, xi⟩ := x
      dsimp only at *
      repeat' (first | ((with_reducible first | show wpS .. | show putD .. | show putW .. | show splitG .. | show wpQ .. | show wpD .. | show wpX .. | show expX .. | show stepX .. | show keepR .. | show wpY ..); conv => whnf) | ((with_reducible show RetN ..); refine retB fun β => ?_) | ((with_reducible show _ ∧ _); first | (refine ⟨fun h => absurd h (by first | omega | decide), fun _ => ?_⟩) | (refine ⟨fun _ => ?_, fun h => absurd h (by first | omega | decide)⟩) | (refine ⟨fun _ => ?_, fun _ => ?_⟩) | (apply And.intro; · kernel_rfl) | (apply And.intro; · (show inK _ _; unfold inK; omega)) | (apply And.intro; · (show (_ : Int) ≤ 9223372036854775807; (try simp only [lenS]); omega))) | ((with_reducible show AllBe ..); refine allBe fun βe => ?_; conv => whnf) | ((with_reducible show bothX ..); refine bothI ?_ ?_; conv => whnf) | (with_reducible exact trivial) | ((with_reducible show CallN ..); refine call_of env_ok rfl 1000 ?_) | ((with_reducible show XopN ..); refine xop_of env_ok rfl 1000 ?_) | ((with_reducible show CallX ..); first | (refine callX (.int .i64 XE) (by kernel_rfl) rfl (trivial) (fun β w hm => Cx (by assumption) w hm.below) ?_)) | ((with_reducible show OpX ..); first | fail) | ((with_reducible show ∃ _ : SV, _); first | (refine ⟨_, ?ok, x_index (j := i) rfl Tryz.underlying26 (fun w => Tryz.sizeOf28 w) (by omega), ?_⟩; (case ok => exact fun _ _ => rfl)) | (refine ⟨_, ?ok, x_loadAgg (vs := [.int .i64 xk, .str m1, .str m2, .str xt, .bool xo, .int .i64 xc, .int .i64 xr, .int .i64 xl, .any (.slice p1 xi.length p2)]) (fun w => Tryz.isAgg28 w) (fun w => Tryz.sizeOf28 w) hld, ?_⟩; (case ok => exact fun _ _ => ⟨trivial, trivial, trivial, trivial, trivial, trivial, trivial, trivial, rfl, trivial⟩))) | ((with_reducible show ∃ _, _); first | fail))
      all_goals first | (exfalso; omega) | (have e : IE = 8 := by { rw [hiE, if_pos (by assumption)] }; rw [hat, e, if_pos (by decide)]; rfl) | (have e : IE = XE := by { rw [hiE, if_neg (by assumption)] }; rw [hat, e, if_pos (by assumption)]; rfl) | (refine hI _ ⟨i + 1, by omega, hnx (by rw [hiE, if_neg (by assumption)]; omega)⟩ (by dsimp only; omega) (by ((with_reducible show wk _ _); repeat' (first | exact trivial | exact eqSV_refl _ | (refine eqI ?_) | (refine eqS ?_) | (with_reducible exact rfl) | apply And.intro | exact Nat.zero_lt_one | exact Nat.le_of_ble_eq_true rfl | (with_reducible assumption) | ((show (_ : Int) = _); (try dsimp only); omega) | ((show eqSV _ _); simp [eqSV, isB, bval, *]; done) | rfl))); done) | trace_state
    · have e : i = n := by omega
      subst e
      rw [← hn, List.take_length] at hzz
      rw [hzz]
      repeat' (first | ((with_reducible first | show wpS .. | show putD .. | show putW .. | show splitG .. | show wpQ .. | show wpD .. | show wpX .. | show expX .. | show stepX .. | show keepR .. | show wpY ..); conv => whnf) | ((with_reducible show RetN ..); refine retB fun β => ?_) | ((with_reducible show _ ∧ _); first | (refine ⟨fun h => absurd h (by first | omega | decide), fun _ => ?_⟩) | (refine ⟨fun _ => ?_, fun h => absurd h (by first | omega | decide)⟩) | (refine ⟨fun _ => ?_, fun _ => ?_⟩) | (apply And.intro; · kernel_rfl) | (apply And.intro; · (show inK _ _; unfold inK; omega)) | (apply And.intro; · (show (_ : Int) ≤ 9223372036854775807; (try simp only [lenS]); omega))) | ((with_reducible show AllBe ..); refine allBe fun βe => ?_; conv => whnf) | ((with_reducible show bothX ..); refine bothI ?_ ?_; conv => whnf) | (with_reducible exact trivial) | ((with_reducible show CallN ..); refine call_of env_ok rfl 1000 ?_) | ((with_reducible show XopN ..); refine xop_of env_ok rfl 1000 ?_) | ((with_reducible show CallX ..); first | fail) | ((with_reducible show OpX ..); first | fail) | ((with_reducible show ∃ _ : SV, _); first | fail) | ((with_reducible show ∃ _, _); first | fail))
      all_goals first | rfl | (exfalso; omega)
/-- the error of any value -/
theorem rverr_any (t : VaP.VT) (a : Option Addr) (cap : Nat) (w : World) (hw : XV w) (hr : XR w) (ht : VIn w t a cap) : Calls Tryz.prog 14 #[vtV t a cap] w fun e w' => e = .returned (.int .i64 (VaP.vErr t)) ∧ Below w.heap.size w w' := by
  have hv : VaP.vErr t = if VaP.vErr0 t ≠ 0 ∨ t.kind ≠ 5 then VaP.vErr0 t else VaP.arrE t := rfl
  by_cases h5 : t.kind = 5
  · refine rverr_arr t a cap w hw hr ht h5 _ rfl _ (fun h => ?_) (fun h => ?_)
    · have h0 := vErr0_bad (t := t) (by omega) h
      rw [hv, if_pos (.inl (by omega)), h0]
    · have h0 : VaP.vErr0 t = 0 := by
        rw [vErr0_ok (by omega) h, if_neg (by omega), if_neg (by omega), if_neg (by omega)]
      rw [hv, if_neg (by omega)]
  · rw [hv, if_pos (.inr h5)]
    exact rverr_sc t a cap w hw hr ht.fit h5
end Go.Proofs.YtdkhkfdenlabaaaGreatDoor
namespace Go.Proofs.YtdkhkfdenlabaaaGreatDoor
open Go.RowKit
open Sym
attribute [local irreducible] Calls Sym.AggEq ExP.nd ExP.dig ExP.upd ExP.writeF ExP.writeE
def VaP.unitP (n : Int) : Int := if n < 0 then -1 else if 0 < n then 1 else 0
/-- texts compared byte by byte -/
def VaP.cmpT : List UInt8 → List UInt8 → Int
  | x :: a, y :: b => if x ≠ y then (x.toNat : Int) - y.toNat else VaP.cmpT a b
  | a, b => (a.length : Int) - b.length
theorem VaP.cmpT_at {a b : List UInt8} {i : Nat} (h : a.take i = b.take i) (ha : i ≤ a.length) (hb : i ≤ b.length) : VaP.cmpT a b = VaP.cmpT (a.drop i) (b.drop i) := by
  induction i generalizing a b with
  | zero => rfl
  | succ i ih =>
    cases a with
    | nil => simp at ha
    | cons x a =>
      cases b with
      | nil => simp at hb
      | cons y b =>
        simp only [List.take_succ_cons, List.cons.injEq] at h
        rw [VaP.cmpT, if_neg (fun e => e h.1)]
        exact ih h.2 (by simpa using ha) (by simpa using hb)
set_option maxRecDepth 100000 in
theorem runit_any (n : Int) (w : World) : Calls Tryz.prog 94 #[.int .i64 n] w fun e w' => e = .returned (.int .i64 (VaP.unitP n)) ∧ Below w.heap.size w w' := by
  unfold VaP.unitP
  refine enter env_ok Tryz.func94 rfl Tryz.results94 Tryz.ntmps94 [] [] [.int .i64 n] (by simp [SV.oks, SV.ok]) (Nat.le_of_ble_eq_true rfl) w _ 1000 ?_
  repeat' (first | ((with_reducible first | show wpS .. | show putD .. | show putW .. | show splitG .. | show wpQ .. | show wpD .. | show wpX .. | show expX .. | show stepX .. | show keepR .. | show wpY ..); conv => whnf) | ((with_reducible show RetN ..); refine retB fun β => ?_) | ((with_reducible show _ ∧ _); first | (refine ⟨fun h => absurd h (by first | omega | decide), fun _ => ?_⟩) | (refine ⟨fun _ => ?_, fun h => absurd h (by first | omega | decide)⟩) | (refine ⟨fun _ => ?_, fun _ => ?_⟩) | (apply And.intro; · kernel_rfl) | (apply And.intro; · (show inK _ _; unfold inK; omega)) | (apply And.intro; · (show (_ : Int) ≤ 9223372036854775807; (try simp only [lenS]); omega))) | ((with_reducible show AllBe ..); refine allBe fun βe => ?_; conv => whnf) | ((with_reducible show bothX ..); refine bothI ?_ ?_; conv => whnf) | (with_reducible exact trivial) | ((with_reducible show CallN ..); refine call_of env_ok rfl 1000 ?_) | ((with_reducible show XopN ..); refine xop_of env_ok rfl 1000 ?_) | ((with_reducible show CallX ..); first | fail) | ((with_reducible show OpX ..); first | fail) | ((with_reducible show ∃ _ : SV, _); first | fail) | ((with_reducible show ∃ _, _); first | fail))
  all_goals first | (rw [if_pos (by assumption)]; rfl) | (rw [if_neg (by assumption), if_pos (by assumption)]; rfl) | (rw [if_neg (by assumption), if_neg (by assumption)]; rfl) | trace_state
set_option maxRecDepth 100000 in
set_option maxHeartbeats 4000000 in
theorem rcmpT_any (a b : List UInt8) (w : World) (ha : a.length ≤ 1000000000) (hb : b.length ≤ 1000000000) : Calls Tryz.prog 97 #[.string (bstr a), .string (bstr b)] w fun e w' => e = .returned (.int .i64 (VaP.cmpT a b)) ∧ Below w.heap.size w w' := by
  refine enter env_ok Tryz.func97 rfl Tryz.results97 Tryz.ntmps97 [] [] [.str a, .str b] (by simp [SV.oks, SV.ok]) (Nat.le_of_ble_eq_true rfl) w _ 1000 ?_
  repeat' (first | ((with_reducible first | show wpS .. | show putD .. | show putW .. | show splitG .. | show wpQ .. | show wpD .. | show wpX .. | show expX .. | show stepX .. | show keepR .. | show wpY ..); conv => whnf) | ((with_reducible show RetN ..); refine retB fun β => ?_) | ((with_reducible show _ ∧ _); first | (refine ⟨fun h => absurd h (by first | omega | decide), fun _ => ?_⟩) | (refine ⟨fun _ => ?_, fun h => absurd h (by first | omega | decide)⟩) | (refine ⟨fun _ => ?_, fun _ => ?_⟩) | (apply And.intro; · kernel_rfl) | (apply And.intro; · (show inK _ _; unfold inK; omega)) | (apply And.intro; · (show (_ : Int) ≤ 9223372036854775807; (try simp only [lenS]); omega))) | ((with_reducible show AllBe ..); refine allBe fun βe => ?_; conv => whnf) | ((with_reducible show bothX ..); refine bothI ?_ ?_; conv => whnf) | (with_reducible exact trivial) | ((with_reducible show CallN ..); refine call_of env_ok rfl 1000 ?_) | ((with_reducible show XopN ..); refine xop_of env_ok rfl 1000 ?_) | ((with_reducible show CallX ..); first | fail) | ((with_reducible show OpX ..); first | fail) | ((with_reducible show ∃ _ : SV, _); first | fail) | ((with_reducible show ∃ _, _); first | fail))
  refine loop env_ok rfl (T := {i : Nat // i ≤ a.length ∧ i ≤ b.length ∧ a.take i = b.take i}) (fun t => ⟨[(0, .str a), (1, .str b), (5, .int .i64 (t.1 : Nat))], [], 0, 39⟩) (fun t => a.length - t.1) ⟨0, Nat.zero_le _, Nat.zero_le _, rfl⟩ 1000 [] [200004, 200005] (fun _ => Nat.zero_le _) (by ((with_reducible show wk _ _); repeat' (first | exact trivial | exact eqSV_refl _ | (refine eqI ?_) | (refine eqS ?_) | (with_reducible exact rfl) | apply And.intro | exact Nat.zero_lt_one | exact Nat.le_of_ble_eq_true rfl | (with_reducible assumption) | ((show (_ : Int) = _); (try dsimp only); omega) | ((show eqSV _ _); simp [eqSV, isB, bval, *]; done) | rfl))) (fun t I hI => ?_)
  obtain ⟨i, h1, h2, h3⟩ := t
  dsimp only
  have hat := VaP.cmpT_at h3 h1 h2
  have q1 := (a.getD i 0).toNat_lt
  have q2 := (b.getD i 0).toNat_lt
  by_cases hlt : i < a.length ∧ i < b.length
  · obtain ⟨l1, l2⟩ := hlt
    have e1 : a.drop i = a.getD i 0 :: a.drop (i + 1) := by rw [List.drop_eq_getElem_cons l1]; simp [List.getD, l1]
    have e2 : b.drop i = b.getD i 0 :: b.drop (i + 1) := by rw [List.drop_eq_getElem_cons l2]; simp [List.getD, l2]
    rw [e1, e2, VaP.cmpT] at hat
    have hnext : (a.getD i 0).toNat = (b.getD i 0).toNat → a.take (i + 1) = b.take (i + 1) := fun h => by
      rw [take_next0 a i l1, take_next0 b i l2, h3, UInt8.toNat_inj.1 h]
    have hdiff : (a.getD i 0).toNat ≠ (b.getD i 0).toNat → VaP.cmpT a b = ((a.getD i 0).toNat : Int) - (b.getD i 0).toNat := fun h => by
      rw [hat, if_pos (fun e => h (by rw [e]))]
    clear hat e1 e2
    repeat' (first | ((with_reducible first | show wpS .. | show putD .. | show putW .. | show splitG .. | show wpQ .. | show wpD .. | show wpX .. | show expX .. | show stepX .. | show keepR .. | show wpY ..); conv => whnf) | ((with_reducible show RetN ..); refine retB fun β => ?_) | ((with_reducible show _ ∧ _); first | (refine ⟨fun h => absurd h (by first | omega | decide), fun _ => ?_⟩) | (refine ⟨fun _ => ?_, fun h => absurd h (by first | omega | decide)⟩) | (refine ⟨fun _ => ?_, fun _ => ?_⟩) | (apply And.intro; · kernel_rfl) | (apply And.intro; · (show inK _ _; unfold inK; omega)) | (apply And.intro; · (show (_ : Int) ≤ 9223372036854775807; (try simp only [lenS]); omega))) | ((with_reducible show AllBe ..); refine allBe fun βe => ?_; conv => whnf) | ((with_reducible show bothX ..); refine bothI ?_ ?_; conv => whnf) | (with_reducible exact trivial) | ((with_reducible show CallN ..); refine call_of env_ok rfl 1000 ?_) | ((with_reducible show XopN ..); refine xop_of env_ok rfl 1000 ?_) | ((with_reducible show CallX ..); first | fail) | ((with_reducible show OpX ..); first | fail) | ((with_reducible show ∃ _ : SV, _); first | fail) | ((with_reducible show ∃ _, _); first | (refine ⟨i, rfl, by omega, ?_⟩)))
    all_goals first | (exfalso; omega) | (rw [hdiff (by omega)]; rfl) | (refine hI _ ⟨i + 1, by omega, by omega, hnext (by omega)⟩ (by dsimp only; omega) (by ((with_reducible show wk _ _); repeat' (first | exact trivial | exact eqSV_refl _ | (refine eqI ?_) | (refine eqS ?_) | (with_reducible exact rfl) | apply And.intro | exact Nat.zero_lt_one | exact Nat.le_of_ble_eq_true rfl | (with_reducible assumption) | ((show (_ : Int) = _); (try dsimp only); omega) | ((show eqSV _ _); simp [eqSV, isB, bval, *]; done) | rfl))); done) | trace_state
  · have hend : VaP.cmpT a b = (a.length : Int) - b.length := by
      rw [hat]
      have hcase : a.drop i = [] ∨ b.drop i = [] := by
        rcases Nat.lt_or_ge i a.length with h | h
        · exact .inr (List.drop_eq_nil_of_le (by omega))
        · exact .inl (List.drop_eq_nil_of_le h)
      have hl : ∀ u v : List UInt8, (u = [] ∨ v = []) → VaP.cmpT u v = (u.length : Int) - v.length := fun u v h => by
        rcases h with rfl | rfl
        · cases v <;> rfl
        · cases u <;> rfl
      rw [hl _ _ hcase, List.length_drop, List.length_drop]
      omega
    rw [hend]
    repeat' (first | ((with_reducible first | show wpS .. | show putD .. | show putW .. | show splitG .. | show wpQ .. | show wpD .. | show wpX .. | show expX .. | show stepX .. | show keepR .. | show wpY ..); conv => whnf) | ((with_reducible show RetN ..); refine retB fun β => ?_) | ((with_reducible show _ ∧ _); first | (refine ⟨fun h => absurd h (by first | omega | decide), fun _ => ?_⟩) | (refine ⟨fun _ => ?_, fun h => absurd h (by first | omega | decide)⟩) | (refine ⟨fun _ => ?_, fun _ => ?_⟩) | (apply And.intro; · kernel_rfl) | (apply And.intro; · (show inK _ _; unfold inK; omega)) | (apply And.intro; · (show (_ : Int) ≤ 9223372036854775807; (try simp only [lenS]); omega))) | ((with_reducible show AllBe ..); refine allBe fun βe => ?_; conv => whnf) | ((with_reducible show bothX ..); refine bothI ?_ ?_; conv => whnf) | (with_reducible exact trivial) | ((with_reducible show CallN ..); refine call_of env_ok rfl 1000 ?_) | ((with_reducible show XopN ..); refine xop_of env_ok rfl 1000 ?_) | ((with_reducible show CallX ..); first | fail) | ((with_reducible show OpX ..); first | fail) | ((with_reducible show ∃ _ : SV, _); first | fail) | ((with_reducible show ∃ _, _); first | (refine ⟨i, rfl, by omega, ?_⟩)))
    all_goals first | (exfalso; omega) | rfl | trace_state
end Go.Proofs.YtdkhkfdenlabaaaGreatDoor
namespace Go.Proofs.YtdkhkfdenlabaaaGreatDoor
open Go.RowKit
open Sym
attribute [local irreducible] Calls Sym.AggEq ExP.nd ExP.dig ExP.upd ExP.writeF ExP.writeE
abbrev IsV (t : VaP.VT) (w : World) (e : Ending) (w' : World) : Prop := e = .returned (vtV t none 0) ∧ Below w.heap.size w w'
set_option maxRecDepth 100000 in
set_option maxHeartbeats 4000000 in
theorem valid_good (t : VaP.VT) (a : Option Addr) (cap : Nat) (w : World) (hw : XV w) (ht : VIn w t a cap) (h : VaP.vErr t = 0) : Calls Tryz.prog 76 #[vtV t a cap] w fun e w' => e = .returned (vtV t a cap) ∧ Below w.heap.size w w' := by
  have C := fun (w' : World) (hb : Below w.heap.size w w') => vcheck_any t a cap w' (hw.below hb) (ht.lift hb)
  rw [h] at C
  clear ht h
  obtain ⟨k, ⟨n1, n2⟩, tx, on, cd, rw', cl, its⟩ := t
  unfold vtV at *
  dsimp only at *
  refine enter env_ok Tryz.func76 rfl Tryz.results76 Tryz.ntmps76 [] [] [.agg [.int .i64 k, .str n1, .str n2, .str tx, .bool on, .int .i64 cd, .int .i64 rw', .int .i64 cl, .any (.slice a its.length cap)]] ⟨⟨trivial, trivial, trivial, trivial, trivial, trivial, trivial, trivial, rfl, trivial⟩, trivial⟩ (Nat.le_of_ble_eq_true rfl) w _ 1000 ?_
  repeat' (first | ((with_reducible first | show wpS .. | show putD .. | show putW .. | show splitG .. | show wpQ .. | show wpD .. | show wpX .. | show expX .. | show stepX .. | show keepR .. | show wpY ..); conv => whnf) | ((with_reducible show RetN ..); refine retB fun β => ?_) | ((with_reducible show _ ∧ _); first | (refine ⟨fun h => absurd h (by first | omega | decide), fun _ => ?_⟩) | (refine ⟨fun _ => ?_, fun h => absurd h (by first | omega | decide)⟩) | (refine ⟨fun _ => ?_, fun _ => ?_⟩) | (apply And.intro; · kernel_rfl) | (apply And.intro; · (show inK _ _; unfold inK; omega)) | (apply And.intro; · (show (_ : Int) ≤ 9223372036854775807; (try simp only [lenS]); omega))) | ((with_reducible show AllBe ..); refine allBe fun βe => ?_; conv => whnf) | ((with_reducible show bothX ..); refine bothI ?_ ?_; conv => whnf) | (with_reducible exact trivial) | ((with_reducible show CallN ..); refine call_of env_ok rfl 1000 ?_) | ((with_reducible show XopN ..); refine xop_of env_ok rfl 1000 ?_) | ((with_reducible show CallX ..); first | (refine callX (.int .i64 0) (by kernel_rfl) rfl (trivial) (fun β w hm => C w hm.below) ?_)) | ((with_reducible show OpX ..); first | fail) | ((with_reducible show ∃ _ : SV, _); first | fail) | ((with_reducible show ∃ _, _); first | fail))
  all_goals first | (exfalso; omega) | rfl
set_option maxRecDepth 100000 in
set_option maxHeartbeats 4000000 in
theorem valid_bad (t : VaP.VT) (a : Option Addr) (cap : Nat) (w : World) (hw : XV w) (ht : VIn w t a cap) (h : VaP.vErr t ≠ 0) : Calls Tryz.prog 76 #[vtV t a cap] w (IsV (VaP.faultV 2) w) := by
  have C := fun (w' : World) (hb : Below w.heap.size w w') => vcheck_any t a cap w' (hw.below hb) (ht.lift hb)
  generalize VaP.vErr t = E at *
  clear ht
  obtain ⟨k, ⟨n1, n2⟩, tx, on, cd, rw', cl, its⟩ := t
  unfold vtV at *
  dsimp only at *
  refine enter env_ok Tryz.func76 rfl Tryz.results76 Tryz.ntmps76 [] [] [.agg [.int .i64 k, .str n1, .str n2, .str tx, .bool on, .int .i64 cd, .int .i64 rw', .int .i64 cl, .any (.slice a its.length cap)]] ⟨⟨trivial, trivial, trivial, trivial, trivial, trivial, trivial, trivial, rfl, trivial⟩, trivial⟩ (Nat.le_of_ble_eq_true rfl) w _ 1000 ?_
  repeat' (first | ((with_reducible first | show wpS .. | show putD .. | show putW .. | show splitG .. | show wpQ .. | show wpD .. | show wpX .. | show expX .. | show stepX .. | show keepR .. | show wpY ..); conv => whnf) | ((with_reducible show RetN ..); refine retB fun β => ?_) | ((with_reducible show _ ∧ _); first | (refine ⟨fun h => absurd h (by first | omega | decide), fun _ => ?_⟩) | (refine ⟨fun _ => ?_, fun h => absurd h (by first | omega | decide)⟩) | (refine ⟨fun _ => ?_, fun _ => ?_⟩) | (apply And.intro; · kernel_rfl) | (apply And.intro; · (show inK _ _; unfold inK; omega)) | (apply And.intro; · (show (_ : Int) ≤ 9223372036854775807; (try simp only [lenS]); omega))) | ((with_reducible show AllBe ..); refine allBe fun βe => ?_; conv => whnf) | ((with_reducible show bothX ..); refine bothI ?_ ?_; conv => whnf) | (with_reducible exact trivial) | ((with_reducible show CallN ..); refine call_of env_ok rfl 1000 ?_) | ((with_reducible show XopN ..); refine xop_of env_ok rfl 1000 ?_) | ((with_reducible show CallX ..); first | (refine callX (.int .i64 E) (by kernel_rfl) rfl (trivial) (fun β w hm => C w hm.below) ?_)) | ((with_reducible show OpX ..); first | fail) | ((with_reducible show ∃ _ : SV, _); first | fail) | ((with_reducible show ∃ _, _); first | fail))
  all_goals first | (exfalso; omega) | rfl
/-- a value without items -/
theorem VIn.flat {w : World} {t : VaP.VT} (h : t.items = []) (hf : t.Fit) : VIn w t none 0 :=
  .mk t none 0 (fun _ => (none, 0)) hf (by rw [h]; exact Nat.le_refl _) (fun _ => rfl) (fun i x hx => by rw [h] at hx; simp at hx) (fun i x hx => by rw [h] at hx; simp at hx)
theorem valid_flat (t : VaP.VT) (w : World) (hw : XV w) (hi : t.items = []) (hf : t.Fit) : Calls Tryz.prog 76 #[vtV t none 0] w (IsV (if VaP.vErr t = 0 then t else VaP.faultV 2) w) := by
  by_cases h : VaP.vErr t = 0
  · rw [if_pos h]; exact valid_good t none 0 w hw (.flat hi hf) h
  · rw [if_neg h]; exact valid_bad t none 0 w hw (.flat hi hf) h
theorem VaP.vErr_num (f : ExP.Fr) : VaP.vErr (VaP.numF f) = ExP.readE f := by
  unfold VaP.vErr VaP.vErr0 VaP.numF
  simp
set_option maxRecDepth 100000 in
theorem vnumber_any (f : ExP.Fr) (w : World) (hw : XV w) (h1 : f.1.length ≤ 9223372036854775807) (h2 : f.2.length ≤ 9223372036854775807) : Calls Tryz.prog 19 #[frV f] w (IsV (if ExP.readE f = 0 then VaP.numF f else VaP.faultV 2) w) := by
  have V := fun (w' : World) (hb : Below w.heap.size w w') => valid_flat (VaP.numF f) w' (hw.below hb) rfl ⟨h1, h2, Nat.zero_le _⟩
  rw [VaP.vErr_num] at V
  obtain ⟨f1, f2⟩ := f
  by_cases h : ExP.readE (f1, f2) = 0
  · simp only [if_pos h] at V ⊢
    refine enter env_ok Tryz.func19 rfl Tryz.results19 Tryz.ntmps19 [] [] [.agg [.str f1, .str f2]] (by simp [SV.oks, SV.ok]) (Nat.le_of_ble_eq_true rfl) w _ 1000 ?_
    repeat' (first | ((with_reducible first | show wpS .. | show putD .. | show putW .. | show splitG .. | show wpQ .. | show wpD .. | show wpX .. | show expX .. | show stepX .. | show keepR .. | show wpY ..); conv => whnf) | ((with_reducible show RetN ..); refine retB fun β => ?_) | ((with_reducible show _ ∧ _); first | (refine ⟨fun h => absurd h (by first | omega | decide), fun _ => ?_⟩) | (refine ⟨fun _ => ?_, fun h => absurd h (by first | omega | decide)⟩) | (refine ⟨fun _ => ?_, fun _ => ?_⟩) | (apply And.intro; · kernel_rfl) | (apply And.intro; · (show inK _ _; unfold inK; omega)) | (apply And.intro; · (show (_ : Int) ≤ 9223372036854775807; (try simp only [lenS]); omega))) | ((with_reducible show AllBe ..); refine allBe fun βe => ?_; conv => whnf) | ((with_reducible show bothX ..); refine bothI ?_ ?_; conv => whnf) | (with_reducible exact trivial) | ((with_reducible show CallN ..); refine call_of env_ok rfl 1000 ?_) | ((with_reducible show XopN ..); refine xop_of env_ok rfl 1000 ?_) | ((with_reducible show CallX ..); first | (refine callX (.agg [.int .i64 1, .str f1, .str f2, .str [], .lit false, .int .i64 0, .int .i64 0, .int .i64 0, .any (.slice none 0 0)]) (by kernel_rfl) rfl (⟨trivial, trivial, trivial, trivial, trivial, trivial, trivial, trivial, rfl, trivial⟩) (fun β w hm => V w hm.below) ?_)) | ((with_reducible show OpX ..); first | fail) | ((with_reducible show ∃ _ : SV, _); first | fail) | ((with_reducible show ∃ _, _); first | fail))
    all_goals rfl
  · simp only [if_neg h] at V ⊢
    refine enter env_ok Tryz.func19 rfl Tryz.results19 Tryz.ntmps19 [] [] [.agg [.str f1, .str f2]] (by simp [SV.oks, SV.ok]) (Nat.le_of_ble_eq_true rfl) w _ 1000 ?_
    repeat' (first | ((with_reducible first | show wpS .. | show putD .. | show putW .. | show splitG .. | show wpQ .. | show wpD .. | show wpX .. | show expX .. | show stepX .. | show keepR .. | show wpY ..); conv => whnf) | ((with_reducible show RetN ..); refine retB fun β => ?_) | ((with_reducible show _ ∧ _); first | (refine ⟨fun h => absurd h (by first | omega | decide), fun _ => ?_⟩) | (refine ⟨fun _ => ?_, fun h => absurd h (by first | omega | decide)⟩) | (refine ⟨fun _ => ?_, fun _ => ?_⟩) | (apply And.intro; · kernel_rfl) | (apply And.intro; · (show inK _ _; unfold inK; omega)) | (apply And.intro; · (show (_ : Int) ≤ 9223372036854775807; (try simp only [lenS]); omega))) | ((with_reducible show AllBe ..); refine allBe fun βe => ?_; conv => whnf) | ((with_reducible show bothX ..); refine bothI ?_ ?_; conv => whnf) | (with_reducible exact trivial) | ((with_reducible show CallN ..); refine call_of env_ok rfl 1000 ?_) | ((with_reducible show XopN ..); refine xop_of env_ok rfl 1000 ?_) | ((with_reducible show CallX ..); first | (refine callX (.agg [.int .i64 4, .str [], .str [], .str [], .lit false, .int .i64 2, .int .i64 0, .int .i64 0, .any (.slice none 0 0)]) (by kernel_rfl) rfl (⟨trivial, trivial, trivial, trivial, trivial, trivial, trivial, trivial, rfl, trivial⟩) (fun β w hm => V w hm.below) ?_)) | ((with_reducible show OpX ..); first | fail) | ((with_reducible show ∃ _ : SV, _); first | fail) | ((with_reducible show ∃ _, _); first | fail))
    all_goals rfl
end Go.Proofs.YtdkhkfdenlabaaaGreatDoor
