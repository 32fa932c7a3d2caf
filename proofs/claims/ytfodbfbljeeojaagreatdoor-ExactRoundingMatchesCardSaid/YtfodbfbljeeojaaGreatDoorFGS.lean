/- Powers of ten and scaling, the program's and the reference's. Decimal numbers read: the program's Parse. Square roots of the program's fractions; the reference's Floor. A walk that reckons: numbers kept free ahead of a drawn region; one's own cells told of another number. A walk that reckons: fractions whose slices may be arguments'. -/
import Derived.Test.YtfodbfbljeeojaaGreatDoorFGR
import Derived.Test.YtfodbfbljeeojaaGreatDoorFGO
import Derived.Test.YtfodbfbljeeojaaGreatDoorFGP
import Derived.Test.YtfodbfbljeeojaaGreatDoorFGL
set_option linter.unusedSimpArgs false
set_option linter.unusedVariables false
namespace Go.Proofs.YtfodbfbljeeojaaGreatDoor
open Go.RowKit
open Sym
attribute [local irreducible] Calls Sym.AggEq ExP.nd ExP.dig ExP.upd
/-- a function that answers with a value that bears a number of its own making -/
def NumOut (k : IntKind) (b y : Nat) (f : Option Addr → Nat → Value) (w : World) (e : Ending) (w' : World) : Prop :=
  ∃ a cap, e = .returned (f a cap) ∧ SlAt a (nv k b y) w' ∧ FreshX a (nv k b y) w ∧ (a = none → cap = 0) ∧ ExP.nd b y ≤ cap ∧ Below w.heap.size w w'
theorem ExP.nd_ten10 (k : Nat) : ExP.nd 10 (10 ^ k) = k + 1 := ExP.nd_eq (by omega) (Nat.pow_lt_pow_right (by omega) (Nat.lt_succ_self k)) (.inr (by simp))
theorem ten_row (k : Nat) : (List.replicate (k + 1) (Value.int .i64 0)).set k (.int .i64 1) = nv .i64 10 (10 ^ k) := by
  rw [rep_row 10, show (Value.int .i64 1) = Value.int .i64 ((1 : Nat) : Int) from rfl, valsK_set]
  unfold nv ExP.dg
  rw [ExP.nd_ten10, ExP.dgN_set (by omega) (by omega), ExP.upd_zero (Nat.pow_pos (by omega)), Nat.zero_add, Nat.one_mul]
set_option maxRecDepth 100000 in
set_option maxHeartbeats 2000000 in
theorem rten_any (k : Nat) (w : World) (hk : k ≤ 500000) : Calls Tryz.prog 33 #[.int .i64 (k : Int)] w (NatOut .i64 10 (10 ^ k) w) := by
  obtain ⟨i0, hi, hz0, hz1, hz2⟩ := info_parts intInfo
  have hu := Tryz.underlying34
  have hnd := ExP.nd_ten10 k
  have hrow := ten_row k
  refine enter env_ok Tryz.func33 rfl Tryz.results33 Tryz.ntmps33 [] [] [.int .i64 (k : Int)] (by simp [SV.oks, SV.ok]) (Nat.le_of_ble_eq_true rfl) w _ 1000 ?_
  repeat' (first | ((with_reducible first | show wpS _ _ _ _ | show putD _ _ _ _ | show putW _ _ _ _ | show splitG _ _ _ | show wpQ _ _ _ _ _ _ | show wpD _ _ _ _ _ _ _ | show wpX _ _ _ _ _ _ _ | show expX _ _ _ _ _ _ | show stepX _ _ _ _ | show keepR _ _ _ | show wpY _ _ _ _); conv => whnf) | ((with_reducible show RetN _ _ _); refine retB fun β => ?_) | ((with_reducible show _ ∧ _); first | (apply And.intro; (· intro h; exfalso; first | omega | (revert h; decide)); intro _) | (apply And.intro; rotate_left; (· intro h; exfalso; first | omega | (revert h; decide)); intro _) | (refine ⟨fun _ => ?_, fun _ => ?_⟩) | (apply And.intro; · kernel_rfl) | (apply And.intro; · (show inK _ _; unfold inK; omega)) | (apply And.intro; · (show (_ : Int) ≤ 9223372036854775807; (try simp only [List.length_append, List.length_drop, List.length_take, List.length_cons, List.length_nil]); omega))) | ((with_reducible show AllBe _); refine allBe fun βe => ?_; conv => whnf) | ((with_reducible show bothX _ _); refine bothI ?_ ?_; conv => whnf) | (with_reducible exact trivial) | ((with_reducible show CallN _ _ _ _ _ _ _ _); refine call_of env_ok rfl 1000 ?_) | ((with_reducible show XopN _ _ _ _ _ _); refine xop_of env_ok rfl 1000 ?_) | ((with_reducible show CallX _ _ _ _ _ _); first | fail) | ((with_reducible show OpX _ _ _ _); first | (refine opx_make (m := k + 1) rfl (by omega) rfl rfl hu hi hz0 hz1 rfl (by rw [hz2]; omega) (by unfold maxLen; omega) (fun g => ?_)) | (refine opx_store env_ok 0 (u := .int .i64 1) rfl rfl rfl rfl (fun β => rfl) rfl rfl (by omega) ?_)) | ((with_reducible show ∃ _ : SV, _); first | (refine ⟨_, ?ok, x_index (j := k) (by omega) Tryz.underlying34 (fun w => Tryz.sizeOf3 w) (by omega), ?_⟩; (case ok => exact fun _ _ => rfl))) | ((with_reducible show ∃ _, _); first | fail))
  all_goals first | (exfalso; omega) | skip
  all_goals refine ret fun β w' hm => ?_
  all_goals (
    have ho := hm.own 0 rfl
    rw [Nat.mul_one, hrow] at ho
    exact ⟨_, k + 1, by rw [hnd]; rfl, ho.1, fresh_own ho.2.1 rfl, (fun h => by cases h), by rw [hnd]; exact Nat.le_refl _, hm.below⟩)
section
variable (m : Bool) (n d : Nat) (a : Option Addr) (c : Nat) (b : Option Addr) (e : Nat) (k : Nat) (w : World)
set_option maxRecDepth 100000 in
set_option maxHeartbeats 2000000 in
theorem rscaled_pos (hw0 : 0 < w.heap.size) (hk : k ≤ 500000) (hn : ExP.nd 10 n ≤ 1000000) (hs : SlAt a (nv .i64 10 n) w) : Calls Tryz.prog 34 #[.agg #[.bool m, .slice a (ExP.nd 10 n) c, .slice b (ExP.nd 10 d) e], .int .i64 (k : Int)] w (NumOut .i64 10 (n * 10 ^ k) (fun a' c' => .agg #[.bool m, .slice a' (ExP.nd 10 (n * 10 ^ k)) c', .slice b (ExP.nd 10 d) e]) w) := by
  have hnt := ExP.nd_ten10 k
  refine enter env_ok Tryz.func34 rfl Tryz.results34 Tryz.ntmps34 [] [200002, 200003] [.agg [.bool m, .any (.slice a (ExP.nd 10 n) c), .any (.slice b (ExP.nd 10 d) e)], .int .i64 (k : Int)] ⟨⟨trivial, rfl, rfl, trivial⟩, trivial, trivial⟩ (Nat.le_of_ble_eq_true rfl) w _ 1000 ?_
  repeat' (first | ((with_reducible first | show wpS _ _ _ _ | show putD _ _ _ _ | show putW _ _ _ _ | show splitG _ _ _ | show wpQ _ _ _ _ _ _ | show wpD _ _ _ _ _ _ _ | show wpX _ _ _ _ _ _ _ | show expX _ _ _ _ _ _ | show stepX _ _ _ _ | show keepR _ _ _ | show wpY _ _ _ _); conv => whnf) | ((with_reducible show RetN _ _ _); refine retB fun β => ?_) | ((with_reducible show _ ∧ _); first | (apply And.intro; (· intro h; exfalso; first | omega | (revert h; decide)); intro _) | (apply And.intro; rotate_left; (· intro h; exfalso; first | omega | (revert h; decide)); intro _) | (refine ⟨fun _ => ?_, fun _ => ?_⟩) | (apply And.intro; · kernel_rfl) | (apply And.intro; · (show inK _ _; unfold inK; omega)) | (apply And.intro; · (show (_ : Int) ≤ 9223372036854775807; (try simp only [List.length_append, List.length_drop, List.length_take, List.length_cons, List.length_nil]); omega))) | ((with_reducible show AllBe _); refine allBe fun βe => ?_; conv => whnf) | ((with_reducible show bothX _ _); refine bothI ?_ ?_; conv => whnf) | (with_reducible exact trivial) | ((with_reducible show CallN _ _ _ _ _ _ _ _); refine call_of env_ok rfl 1000 ?_) | ((with_reducible show XopN _ _ _ _ _ _); refine xop_of env_ok rfl 1000 ?_) | ((with_reducible show CallX _ _ _ _ _ _); first | (refine callNat .i64 10 (10 ^ k) hw0 (by kernel_rfl) rfl (fun β w' hm => rten_any k w' hk) (fun a1 c1 q1 q2 q3 => ?_)) | (refine callNat .i64 10 (n * 10 ^ k) hw0 (by kernel_rfl) rfl (fun β w' hm => rtimes_any a a1 c c1 n (10 ^ k) w' (by omega) (by omega) (hs.below hm.below) (by first | exact hm.slF 1 rfl | exact hm.slF 2 rfl | exact hm.slF 3 rfl | exact hm.slF 4 rfl | exact hm.slF 5 rfl | exact hm.slB 3 rfl | exact hm.slB 4 rfl | exact hm.slB 5 rfl | exact hm.slB 6 rfl)) (fun a2 c2 q4 q5 q6 => ?_))) | ((with_reducible show OpX _ _ _ _); first | fail) | ((with_reducible show ∃ _ : SV, _); first | fail) | ((with_reducible show ∃ _, _); first | fail))
  all_goals first | (exfalso; omega) | skip
  all_goals refine ret fun β w' hm => ?_
  all_goals exact ⟨a2, c2, rfl, (by first | exact hm.slF 2 rfl | exact hm.slF 3 rfl | exact hm.slF 4 rfl | exact hm.slF 5 rfl | exact hm.slF 6 rfl | exact hm.slF 7 rfl | exact hm.slF 8 rfl | exact hm.slF 9 rfl), (by first | exact hm.freshF 2 rfl rfl | exact hm.freshF 3 rfl rfl | exact hm.freshF 4 rfl rfl | exact hm.freshF 5 rfl rfl | exact hm.freshF 6 rfl rfl | exact hm.freshF 7 rfl rfl | exact hm.freshF 8 rfl rfl | exact hm.freshF 9 rfl rfl), q4, q5, hm.below⟩
set_option maxRecDepth 100000 in
set_option maxHeartbeats 2000000 in
theorem rscaled_neg (hw0 : 0 < w.heap.size) (hk0 : 0 < k) (hk : k ≤ 500000) (hd : ExP.nd 10 d ≤ 1000000) (hs : SlAt b (nv .i64 10 d) w) : Calls Tryz.prog 34 #[.agg #[.bool m, .slice a (ExP.nd 10 n) c, .slice b (ExP.nd 10 d) e], .int .i64 (-(k : Int))] w (NumOut .i64 10 (d * 10 ^ k) (fun a' c' => .agg #[.bool m, .slice a (ExP.nd 10 n) c, .slice a' (ExP.nd 10 (d * 10 ^ k)) c']) w) := by
  have hnt := ExP.nd_ten10 k
  refine enter env_ok Tryz.func34 rfl Tryz.results34 Tryz.ntmps34 [] [200002, 200003] [.agg [.bool m, .any (.slice a (ExP.nd 10 n) c), .any (.slice b (ExP.nd 10 d) e)], .int .i64 (-(k : Int))] ⟨⟨trivial, rfl, rfl, trivial⟩, trivial, trivial⟩ (Nat.le_of_ble_eq_true rfl) w _ 1000 ?_
  repeat' (first | ((with_reducible first | show wpS _ _ _ _ | show putD _ _ _ _ | show putW _ _ _ _ | show splitG _ _ _ | show wpQ _ _ _ _ _ _ | show wpD _ _ _ _ _ _ _ | show wpX _ _ _ _ _ _ _ | show expX _ _ _ _ _ _ | show stepX _ _ _ _ | show keepR _ _ _ | show wpY _ _ _ _); conv => whnf) | ((with_reducible show RetN _ _ _); refine retB fun β => ?_) | ((with_reducible show _ ∧ _); first | (apply And.intro; (· intro h; exfalso; first | omega | (revert h; decide)); intro _) | (apply And.intro; rotate_left; (· intro h; exfalso; first | omega | (revert h; decide)); intro _) | (refine ⟨fun _ => ?_, fun _ => ?_⟩) | (apply And.intro; · kernel_rfl) | (apply And.intro; · (show inK _ _; unfold inK; omega)) | (apply And.intro; · (show (_ : Int) ≤ 9223372036854775807; (try simp only [List.length_append, List.length_drop, List.length_take, List.length_cons, List.length_nil]); omega))) | ((with_reducible show AllBe _); refine allBe fun βe => ?_; conv => whnf) | ((with_reducible show bothX _ _); refine bothI ?_ ?_; conv => whnf) | (with_reducible exact trivial) | ((with_reducible show CallN _ _ _ _ _ _ _ _); refine call_of env_ok rfl 1000 ?_) | ((with_reducible show XopN _ _ _ _ _ _); refine xop_of env_ok rfl 1000 ?_) | ((with_reducible show CallX _ _ _ _ _ _); first | (refine callNat .i64 10 (10 ^ k) hw0 (by kernel_rfl) rfl (fun β w' hm => by simp only [SV.dens, SV.den]; rw [Int.zero_sub, Int.neg_neg]; exact rten_any k w' hk) (fun a1 c1 q1 q2 q3 => ?_)) | (refine callNat .i64 10 (d * 10 ^ k) hw0 (by kernel_rfl) rfl (fun β w' hm => rtimes_any b a1 e c1 d (10 ^ k) w' (by omega) (by omega) (hs.below hm.below) (by first | exact hm.slF 1 rfl | exact hm.slF 2 rfl | exact hm.slF 3 rfl | exact hm.slF 4 rfl | exact hm.slF 5 rfl | exact hm.slB 3 rfl | exact hm.slB 4 rfl | exact hm.slB 5 rfl | exact hm.slB 6 rfl)) (fun a2 c2 q4 q5 q6 => ?_))) | ((with_reducible show OpX _ _ _ _); first | fail) | ((with_reducible show ∃ _ : SV, _); first | fail) | ((with_reducible show ∃ _, _); first | fail))
  all_goals first | (exfalso; omega) | skip
  all_goals refine ret fun β w' hm => ?_
  all_goals exact ⟨a2, c2, rfl, (by first | exact hm.slF 2 rfl | exact hm.slF 3 rfl | exact hm.slF 4 rfl | exact hm.slF 5 rfl | exact hm.slF 6 rfl | exact hm.slF 7 rfl | exact hm.slF 8 rfl | exact hm.slF 9 rfl), (by first | exact hm.freshF 2 rfl rfl | exact hm.freshF 3 rfl rfl | exact hm.freshF 4 rfl rfl | exact hm.freshF 5 rfl rfl | exact hm.freshF 6 rfl rfl | exact hm.freshF 7 rfl rfl | exact hm.freshF 8 rfl rfl | exact hm.freshF 9 rfl rfl), q4, q5, hm.below⟩
set_option maxRecDepth 100000 in
set_option maxHeartbeats 2000000 in
theorem scaled_pos (hw0 : 0 < w.heap.size) (hk : k ≤ 500000) (hn : ExP.nd 1000000000 n ≤ 1000000) (hs : SlAt a (nv .u32 1000000000 n) w) : Calls Tryz.prog 85 #[.agg #[.bool m, .slice a (ExP.nd 1000000000 n) c, .slice b (ExP.nd 1000000000 d) e], .int .i64 (k : Int)] w (NumOut .u32 1000000000 (n * 10 ^ k) (fun a' c' => .agg #[.bool m, .slice a' (ExP.nd 1000000000 (n * 10 ^ k)) c', .slice b (ExP.nd 1000000000 d) e]) w) := by
  have hnt := ExP.nd_le (b := 1000000000) (x := 10 ^ k) (n := k + 1) (by omega) (Nat.lt_of_lt_of_le (Nat.pow_lt_pow_right (by omega) (Nat.lt_succ_self k)) (Nat.pow_le_pow_left (by omega) _))
  refine enter env_ok Tryz.func85 rfl Tryz.results85 Tryz.ntmps85 [] [100002, 100003] [.agg [.bool m, .any (.slice a (ExP.nd 1000000000 n) c), .any (.slice b (ExP.nd 1000000000 d) e)], .int .i64 (k : Int)] ⟨⟨trivial, rfl, rfl, trivial⟩, trivial, trivial⟩ (Nat.le_of_ble_eq_true rfl) w _ 1000 ?_
  repeat' (first | ((with_reducible first | show wpS _ _ _ _ | show putD _ _ _ _ | show putW _ _ _ _ | show splitG _ _ _ | show wpQ _ _ _ _ _ _ | show wpD _ _ _ _ _ _ _ | show wpX _ _ _ _ _ _ _ | show expX _ _ _ _ _ _ | show stepX _ _ _ _ | show keepR _ _ _ | show wpY _ _ _ _); conv => whnf) | ((with_reducible show RetN _ _ _); refine retB fun β => ?_) | ((with_reducible show _ ∧ _); first | (apply And.intro; (· intro h; exfalso; first | omega | (revert h; decide)); intro _) | (apply And.intro; rotate_left; (· intro h; exfalso; first | omega | (revert h; decide)); intro _) | (refine ⟨fun _ => ?_, fun _ => ?_⟩) | (apply And.intro; · kernel_rfl) | (apply And.intro; · (show inK _ _; unfold inK; omega)) | (apply And.intro; · (show (_ : Int) ≤ 9223372036854775807; (try simp only [List.length_append, List.length_drop, List.length_take, List.length_cons, List.length_nil]); omega))) | ((with_reducible show AllBe _); refine allBe fun βe => ?_; conv => whnf) | ((with_reducible show bothX _ _); refine bothI ?_ ?_; conv => whnf) | (with_reducible exact trivial) | ((with_reducible show CallN _ _ _ _ _ _ _ _); refine call_of env_ok rfl 1000 ?_) | ((with_reducible show XopN _ _ _ _ _ _); refine xop_of env_ok rfl 1000 ?_) | ((with_reducible show CallX _ _ _ _ _ _); first | (refine callNat .u32 1000000000 (10 ^ k) hw0 (by kernel_rfl) rfl (fun β w' hm => ten_any k w' (Nat.lt_of_lt_of_le hw0 hm.base_le) hk) (fun a1 c1 q1 q2 q3 => ?_)) | (refine callNat .u32 1000000000 (n * 10 ^ k) hw0 (by kernel_rfl) rfl (fun β w' hm => times_any a a1 c c1 n (10 ^ k) w' (by omega) (by omega) (hs.below hm.below) (by first | exact hm.slF 1 rfl | exact hm.slF 2 rfl | exact hm.slF 3 rfl | exact hm.slF 4 rfl | exact hm.slF 5 rfl | exact hm.slB 3 rfl | exact hm.slB 4 rfl | exact hm.slB 5 rfl | exact hm.slB 6 rfl)) (fun a2 c2 q4 q5 q6 => ?_))) | ((with_reducible show OpX _ _ _ _); first | fail) | ((with_reducible show ∃ _ : SV, _); first | fail) | ((with_reducible show ∃ _, _); first | fail))
  all_goals first | (exfalso; omega) | skip
  all_goals refine ret fun β w' hm => ?_
  all_goals exact ⟨a2, c2, rfl, (by first | exact hm.slF 2 rfl | exact hm.slF 3 rfl | exact hm.slF 4 rfl | exact hm.slF 5 rfl | exact hm.slF 6 rfl | exact hm.slF 7 rfl | exact hm.slF 8 rfl | exact hm.slF 9 rfl), (by first | exact hm.freshF 2 rfl rfl | exact hm.freshF 3 rfl rfl | exact hm.freshF 4 rfl rfl | exact hm.freshF 5 rfl rfl | exact hm.freshF 6 rfl rfl | exact hm.freshF 7 rfl rfl | exact hm.freshF 8 rfl rfl | exact hm.freshF 9 rfl rfl), q4, q5, hm.below⟩
set_option maxRecDepth 100000 in
set_option maxHeartbeats 2000000 in
theorem scaled_neg (hw0 : 0 < w.heap.size) (hk0 : 0 < k) (hk : k ≤ 500000) (hd : ExP.nd 1000000000 d ≤ 1000000) (hs : SlAt b (nv .u32 1000000000 d) w) : Calls Tryz.prog 85 #[.agg #[.bool m, .slice a (ExP.nd 1000000000 n) c, .slice b (ExP.nd 1000000000 d) e], .int .i64 (-(k : Int))] w (NumOut .u32 1000000000 (d * 10 ^ k) (fun a' c' => .agg #[.bool m, .slice a (ExP.nd 1000000000 n) c, .slice a' (ExP.nd 1000000000 (d * 10 ^ k)) c']) w) := by
  have hnt := ExP.nd_le (b := 1000000000) (x := 10 ^ k) (n := k + 1) (by omega) (Nat.lt_of_lt_of_le (Nat.pow_lt_pow_right (by omega) (Nat.lt_succ_self k)) (Nat.pow_le_pow_left (by omega) _))
  refine enter env_ok Tryz.func85 rfl Tryz.results85 Tryz.ntmps85 [] [100002, 100003] [.agg [.bool m, .any (.slice a (ExP.nd 1000000000 n) c), .any (.slice b (ExP.nd 1000000000 d) e)], .int .i64 (-(k : Int))] ⟨⟨trivial, rfl, rfl, trivial⟩, trivial, trivial⟩ (Nat.le_of_ble_eq_true rfl) w _ 1000 ?_
  repeat' (first | ((with_reducible first | show wpS _ _ _ _ | show putD _ _ _ _ | show putW _ _ _ _ | show splitG _ _ _ | show wpQ _ _ _ _ _ _ | show wpD _ _ _ _ _ _ _ | show wpX _ _ _ _ _ _ _ | show expX _ _ _ _ _ _ | show stepX _ _ _ _ | show keepR _ _ _ | show wpY _ _ _ _); conv => whnf) | ((with_reducible show RetN _ _ _); refine retB fun β => ?_) | ((with_reducible show _ ∧ _); first | (apply And.intro; (· intro h; exfalso; first | omega | (revert h; decide)); intro _) | (apply And.intro; rotate_left; (· intro h; exfalso; first | omega | (revert h; decide)); intro _) | (refine ⟨fun _ => ?_, fun _ => ?_⟩) | (apply And.intro; · kernel_rfl) | (apply And.intro; · (show inK _ _; unfold inK; omega)) | (apply And.intro; · (show (_ : Int) ≤ 9223372036854775807; (try simp only [List.length_append, List.length_drop, List.length_take, List.length_cons, List.length_nil]); omega))) | ((with_reducible show AllBe _); refine allBe fun βe => ?_; conv => whnf) | ((with_reducible show bothX _ _); refine bothI ?_ ?_; conv => whnf) | (with_reducible exact trivial) | ((with_reducible show CallN _ _ _ _ _ _ _ _); refine call_of env_ok rfl 1000 ?_) | ((with_reducible show XopN _ _ _ _ _ _); refine xop_of env_ok rfl 1000 ?_) | ((with_reducible show CallX _ _ _ _ _ _); first | (refine callNat .u32 1000000000 (10 ^ k) hw0 (by kernel_rfl) rfl (fun β w' hm => by simp only [SV.dens, SV.den]; rw [Int.zero_sub, Int.neg_neg]; exact ten_any k w' (Nat.lt_of_lt_of_le hw0 hm.base_le) hk) (fun a1 c1 q1 q2 q3 => ?_)) | (refine callNat .u32 1000000000 (d * 10 ^ k) hw0 (by kernel_rfl) rfl (fun β w' hm => times_any b a1 e c1 d (10 ^ k) w' (by omega) (by omega) (hs.below hm.below) (by first | exact hm.slF 1 rfl | exact hm.slF 2 rfl | exact hm.slF 3 rfl | exact hm.slF 4 rfl | exact hm.slF 5 rfl | exact hm.slB 3 rfl | exact hm.slB 4 rfl | exact hm.slB 5 rfl | exact hm.slB 6 rfl)) (fun a2 c2 q4 q5 q6 => ?_))) | ((with_reducible show OpX _ _ _ _); first | fail) | ((with_reducible show ∃ _ : SV, _); first | fail) | ((with_reducible show ∃ _, _); first | fail))
  all_goals first | (exfalso; omega) | skip
  all_goals refine ret fun β w' hm => ?_
  all_goals exact ⟨a2, c2, rfl, (by first | exact hm.slF 2 rfl | exact hm.slF 3 rfl | exact hm.slF 4 rfl | exact hm.slF 5 rfl | exact hm.slF 6 rfl | exact hm.slF 7 rfl | exact hm.slF 8 rfl | exact hm.slF 9 rfl), (by first | exact hm.freshF 2 rfl rfl | exact hm.freshF 3 rfl rfl | exact hm.freshF 4 rfl rfl | exact hm.freshF 5 rfl rfl | exact hm.freshF 6 rfl rfl | exact hm.freshF 7 rfl rfl | exact hm.freshF 8 rfl rfl | exact hm.freshF 9 rfl rfl), q4, q5, hm.below⟩
end
end Go.Proofs.YtfodbfbljeeojaaGreatDoor
namespace Go.Proofs.YtfodbfbljeeojaaGreatDoor
open Go.RowKit
open Sym
attribute [local irreducible] Calls Sym.AggEq ExP.nd ExP.dig ExP.upd ExP.writeF ExP.writeE
theorem ExP.nd_ten {b : Nat} (hb : 10 ≤ b) (k : Nat) : ExP.nd b (10 ^ k) ≤ k + 1 :=
  ExP.nd_le (by omega) (Nat.lt_of_lt_of_le (Nat.pow_lt_pow_right (by omega) (Nat.lt_succ_self k)) (Nat.pow_le_pow_left hb _))
end Go.Proofs.YtfodbfbljeeojaaGreatDoor
namespace Go.Proofs.YtfodbfbljeeojaaGreatDoor
open Go.RowKit
open Sym
attribute [local irreducible] Calls Sym.AggEq ExP.nd ExP.dig ExP.upd ExP.writeF ExP.writeE
/-- rounded down -/
def ExP.floorN (x : ExP.Num) : ExP.Num := ⟨x.m, x.n / x.d + (if x.m = true ∧ x.n % x.d ≠ 0 then 1 else 0), 1⟩
set_option maxRecDepth 100000 in
set_option maxHeartbeats 4000000 in
theorem rfloor_any (x : FrV) (w : World) (hw0 : 0 < w.heap.size) (hx : FrIn .i64 10 x w) (hd : 0 < x.d) (hxn : ExP.nd 10 x.n ≤ 1000000) (hxd : ExP.nd 10 x.d ≤ 1000000) :
    Calls Tryz.prog 35 #[x.val 10] w (FrOut .i64 10 (ExP.floorN x.num) w) := by
  obtain ⟨i0, hi, hz0, hz1, hz2⟩ := info_parts intInfo
  have hu := Tryz.underlying34
  have hsz := fun w => Tryz.sizeOf3 w
  have hzv := fun w => Tryz.zeroValue3 w
  have hn1 : ExP.nd 10 1 = 1 := ExP.nd_one (by omega)
  have hv1 : nv .i64 10 1 = [.int .i64 1] := nv_one (by omega)
  have hF : ExP.floorN x.num = ⟨x.m, x.n / x.d + (if x.m = true ∧ x.n % x.d ≠ 0 then 1 else 0), 1⟩ := rfl
  rw [hF]
  clear hF
  obtain ⟨m, n, d, a, c, b, e⟩ := x
  obtain ⟨hx1, hx2, ⟨hx3, hx4, hx5, hx6⟩⟩ := hx
  dsimp only [FrV.num, FrV.val] at *
  have DV := fun (w' : World) (h : Below w.heap.size w w') => rdivide_any a b c e n d w' (Nat.lt_of_lt_of_le hw0 h.size) (by omega) (by omega) hd (hx1.below h) (hx2.below h)
  have hq := ExP.nd_mono (b := 10) (by omega) (Nat.div_le_self n d)
  have hr0 := ExP.nd_pos (b := 10) (x := n % d) (by omega)
  generalize n / d = q at *
  generalize n % d = r at *
  have PL := fun qa qc g (w' : World) h1 h2 => rplus_any qa (some ⟨g, 0, none⟩) qc 1 q 1 w' (by omega) (by omega) h1 h2
  rw [hn1, hv1] at PL
  have fin : ∀ (Z : Nat) (w' : World) (β : Nat → Nat) (qa : Option Addr) (qc g : Nat), SlAt qa (nv .i64 10 Z) w' → FreshX qa (nv .i64 10 Z) w → (qa = none → qc = 0) → ExP.nd 10 Z ≤ qc → SlAt (some ⟨g, 0, none⟩) [.int .i64 1] w' → FreshX (some ⟨g, 0, none⟩) [.int .i64 1] w → Below w.heap.size w w' →
      FrOut .i64 10 ⟨m, Z, 1⟩ w (.returned (.agg #[.bool m, .slice qa (ExP.nd 10 Z) qc, .slice (some ⟨g, 0, none⟩) 1 1])) w' := fun Z w' β qa qc g g1 g2 g3 g4 g5 g6 g7 =>
    ⟨⟨m, Z, 1, qa, qc, some ⟨g, 0, none⟩, 1⟩, by simp only [FrV.val, hn1], rfl, ⟨g3, (fun h => by cases h), g4, by dsimp only; omega⟩, Ls2 g1 g2 (by dsimp only; rw [hv1]; exact g5) (by dsimp only; rw [hv1]; exact g6), g7⟩
  cases m with
  | false =>
    rw [if_neg (by simp), Nat.add_zero]
    refine enter env_ok Tryz.func35 rfl Tryz.results35 Tryz.ntmps35 [] [] [.agg [.bool false, .any (.slice a (ExP.nd 10 n) c), .any (.slice b (ExP.nd 10 d) e)]] ⟨⟨trivial, rfl, rfl, trivial⟩, trivial⟩ (Nat.le_of_ble_eq_true rfl) w _ 1000 ?_
    repeat' (first | ((with_reducible first | show wpS _ _ _ _ | show putD _ _ _ _ | show putW _ _ _ _ | show splitG _ _ _ | show wpQ _ _ _ _ _ _ | show wpD _ _ _ _ _ _ _ | show wpX _ _ _ _ _ _ _ | show expX _ _ _ _ _ _ | show stepX _ _ _ _ | show keepR _ _ _ | show wpY _ _ _ _); conv => whnf) | ((with_reducible show RetN _ _ _); refine retB fun β => ?_) | ((with_reducible show _ ∧ _); first | (apply And.intro; (· intro h; exfalso; first | omega | (revert h; decide)); intro _) | (apply And.intro; rotate_left; (· intro h; exfalso; first | omega | (revert h; decide)); intro _) | (refine ⟨fun _ => ?_, fun _ => ?_⟩) | (apply And.intro; · kernel_rfl) | (apply And.intro; · (show inK _ _; unfold inK; omega)) | (apply And.intro; · (show (_ : Int) ≤ 9223372036854775807; (try simp only [List.length_append, List.length_drop, List.length_take, List.length_cons, List.length_nil]); omega))) | ((with_reducible show AllBe _); refine allBe fun βe => ?_; conv => whnf) | ((with_reducible show bothX _ _); refine bothI ?_ ?_; conv => whnf) | (with_reducible exact trivial) | ((with_reducible show CallN _ _ _ _ _ _ _ _); refine call_of env_ok rfl 1000 ?_) | ((with_reducible show XopN _ _ _ _ _ _); refine xop_of env_ok rfl 1000 ?_) | ((with_reducible show CallX _ _ _ _ _ _); first | (refine callNat2 .i64 10 q r hw0 (by kernel_rfl) rfl (fun β w' hm => DV w' hm.below) (fun u1 v1 u2 v2 k1 k2 k3 k4 k5 k6 => ?_))) | ((with_reducible show OpX _ _ _ _); first | (refine opx_build1 (sz := 1) rfl rfl rfl (xs := [.int .i64 1]) (fun β => rfl) rfl (by omega) (by omega) hu hsz hzv (fun g1 => ?_))) | ((with_reducible show ∃ _ : SV, _); first | (refine ⟨_, ?ok, x_len Tryz.underlying34, ?_⟩; (case ok => exact fun _ _ => trivial))) | ((with_reducible show ∃ _, _); first | fail))
    all_goals first | (exfalso; simp_all; done) | skip
    all_goals refine ret fun β w' hm => ?_
    all_goals exact fin q w' β u1 v1 g1 (by first | exact hm.slF 2 rfl | exact hm.slF 3 rfl | exact hm.slF 4 rfl | exact hm.slF 5 rfl | exact hm.slF 6 rfl | exact hm.slF 7 rfl | exact hm.slF 8 rfl | exact hm.slF 9 rfl) (by first | exact hm.freshF 2 rfl rfl | exact hm.freshF 3 rfl rfl | exact hm.freshF 4 rfl rfl | exact hm.freshF 5 rfl rfl | exact hm.freshF 6 rfl rfl | exact hm.freshF 7 rfl rfl | exact hm.freshF 8 rfl rfl | exact hm.freshF 9 rfl rfl) k1 k2 (hm.own 4 rfl).1 (fresh_own (hm.own 4 rfl).2.1 rfl) hm.below
  | true =>
    by_cases hr : r = 0
    · rw [if_neg (by simp [hr]), Nat.add_zero]
      refine enter env_ok Tryz.func35 rfl Tryz.results35 Tryz.ntmps35 [] [] [.agg [.bool true, .any (.slice a (ExP.nd 10 n) c), .any (.slice b (ExP.nd 10 d) e)]] ⟨⟨trivial, rfl, rfl, trivial⟩, trivial⟩ (Nat.le_of_ble_eq_true rfl) w _ 1000 ?_
      repeat' (first | ((with_reducible first | show wpS _ _ _ _ | show putD _ _ _ _ | show putW _ _ _ _ | show splitG _ _ _ | show wpQ _ _ _ _ _ _ | show wpD _ _ _ _ _ _ _ | show wpX _ _ _ _ _ _ _ | show expX _ _ _ _ _ _ | show stepX _ _ _ _ | show keepR _ _ _ | show wpY _ _ _ _); conv => whnf) | ((with_reducible show RetN _ _ _); refine retB fun β => ?_) | ((with_reducible show _ ∧ _); first | (apply And.intro; (· intro h; exfalso; first | omega | (revert h; decide)); intro _) | (apply And.intro; rotate_left; (· intro h; exfalso; first | omega | (revert h; decide)); intro _) | (refine ⟨fun _ => ?_, fun _ => ?_⟩) | (apply And.intro; · kernel_rfl) | (apply And.intro; · (show inK _ _; unfold inK; omega)) | (apply And.intro; · (show (_ : Int) ≤ 9223372036854775807; (try simp only [List.length_append, List.length_drop, List.length_take, List.length_cons, List.length_nil]); omega))) | ((with_reducible show AllBe _); refine allBe fun βe => ?_; conv => whnf) | ((with_reducible show bothX _ _); refine bothI ?_ ?_; conv => whnf) | (with_reducible exact trivial) | ((with_reducible show CallN _ _ _ _ _ _ _ _); refine call_of env_ok rfl 1000 ?_) | ((with_reducible show XopN _ _ _ _ _ _); refine xop_of env_ok rfl 1000 ?_) | ((with_reducible show CallX _ _ _ _ _ _); first | (refine callNat2 .i64 10 q r hw0 (by kernel_rfl) rfl (fun β w' hm => DV w' hm.below) (fun u1 v1 u2 v2 k1 k2 k3 k4 k5 k6 => ?_))) | ((with_reducible show OpX _ _ _ _); first | (refine opx_build1 (sz := 1) rfl rfl rfl (xs := [.int .i64 1]) (fun β => rfl) rfl (by omega) (by omega) hu hsz hzv (fun g1 => ?_))) | ((with_reducible show ∃ _ : SV, _); first | (refine ⟨_, ?ok, x_len Tryz.underlying34, ?_⟩; (case ok => exact fun _ _ => trivial))) | ((with_reducible show ∃ _, _); first | fail))
      all_goals first | (exfalso; omega) | (exfalso; simp_all; done) | skip
      all_goals refine ret fun β w' hm => ?_
      all_goals exact fin q w' β u1 v1 g1 (by first | exact hm.slF 2 rfl | exact hm.slF 3 rfl | exact hm.slF 4 rfl | exact hm.slF 5 rfl | exact hm.slF 6 rfl | exact hm.slF 7 rfl | exact hm.slF 8 rfl | exact hm.slF 9 rfl) (by first | exact hm.freshF 2 rfl rfl | exact hm.freshF 3 rfl rfl | exact hm.freshF 4 rfl rfl | exact hm.freshF 5 rfl rfl | exact hm.freshF 6 rfl rfl | exact hm.freshF 7 rfl rfl | exact hm.freshF 8 rfl rfl | exact hm.freshF 9 rfl rfl) k1 k2 (hm.own 4 rfl).1 (fresh_own (hm.own 4 rfl).2.1 rfl) hm.below
    · rw [if_pos ⟨rfl, hr⟩]
      refine enter env_ok Tryz.func35 rfl Tryz.results35 Tryz.ntmps35 [] [] [.agg [.bool true, .any (.slice a (ExP.nd 10 n) c), .any (.slice b (ExP.nd 10 d) e)]] ⟨⟨trivial, rfl, rfl, trivial⟩, trivial⟩ (Nat.le_of_ble_eq_true rfl) w _ 1000 ?_
      repeat' (first | ((with_reducible first | show wpS _ _ _ _ | show putD _ _ _ _ | show putW _ _ _ _ | show splitG _ _ _ | show wpQ _ _ _ _ _ _ | show wpD _ _ _ _ _ _ _ | show wpX _ _ _ _ _ _ _ | show expX _ _ _ _ _ _ | show stepX _ _ _ _ | show keepR _ _ _ | show wpY _ _ _ _); conv => whnf) | ((with_reducible show RetN _ _ _); refine retB fun β => ?_) | ((with_reducible show _ ∧ _); first | (apply And.intro; (· intro h; exfalso; first | omega | (revert h; decide)); intro _) | (apply And.intro; rotate_left; (· intro h; exfalso; first | omega | (revert h; decide)); intro _) | (refine ⟨fun _ => ?_, fun _ => ?_⟩) | (apply And.intro; · kernel_rfl) | (apply And.intro; · (show inK _ _; unfold inK; omega)) | (apply And.intro; · (show (_ : Int) ≤ 9223372036854775807; (try simp only [List.length_append, List.length_drop, List.length_take, List.length_cons, List.length_nil]); omega))) | ((with_reducible show AllBe _); refine allBe fun βe => ?_; conv => whnf) | ((with_reducible show bothX _ _); refine bothI ?_ ?_; conv => whnf) | (with_reducible exact trivial) | ((with_reducible show CallN _ _ _ _ _ _ _ _); refine call_of env_ok rfl 1000 ?_) | ((with_reducible show XopN _ _ _ _ _ _); refine xop_of env_ok rfl 1000 ?_) | ((with_reducible show CallX _ _ _ _ _ _); first | (refine callNat2 .i64 10 q r hw0 (by kernel_rfl) rfl (fun β w' hm => DV w' hm.below) (fun u1 v1 u2 v2 k1 k2 k3 k4 k5 k6 => ?_)) | (refine callNat .i64 10 (q + 1) hw0 (by kernel_rfl) rfl (fun β w' hm => PL u1 v1 g0 w' (hm.slF 2 rfl) (hm.own 4 rfl).1) (fun u3 v3 k7 k8 k9 => ?_))) | ((with_reducible show OpX _ _ _ _); first | (refine opx_build1 (sz := 1) rfl rfl rfl (xs := [.int .i64 1]) (fun β => rfl) rfl (by omega) (by omega) hu hsz hzv (fun g0 => ?_))) | ((with_reducible show ∃ _ : SV, _); first | (refine ⟨_, ?ok, x_len Tryz.underlying34, ?_⟩; (case ok => exact fun _ _ => trivial))) | ((with_reducible show ∃ _, _); first | fail))
      all_goals first | (exfalso; omega) | (exfalso; simp_all; done) | skip
      all_goals refine ret fun β w' hm => ?_
      all_goals exact fin (q + 1) w' β u3 v3 g0 (by first | exact hm.slF 2 rfl | exact hm.slF 3 rfl | exact hm.slF 4 rfl | exact hm.slF 5 rfl | exact hm.slF 6 rfl | exact hm.slF 7 rfl | exact hm.slF 8 rfl | exact hm.slF 9 rfl) (by first | exact hm.freshF 2 rfl rfl | exact hm.freshF 3 rfl rfl | exact hm.freshF 4 rfl rfl | exact hm.freshF 5 rfl rfl | exact hm.freshF 6 rfl rfl | exact hm.freshF 7 rfl rfl | exact hm.freshF 8 rfl rfl | exact hm.freshF 9 rfl rfl) k7 k8 (hm.own 6 rfl).1 (fresh_own (hm.own 6 rfl).2.1 rfl) hm.below
end Go.Proofs.YtfodbfbljeeojaaGreatDoor
namespace Go.Proofs.YtfodbfbljeeojaaGreatDoor
open Go.RowKit
namespace Sym
/-- rows but one -/
def del (j : Nat) : List (Nat × Bool × SRow) → List (Nat × Bool × SRow)
  | [] => []
  | (i, x) :: r => match Nat.beq i j with
    | true => del j r
    | false => (i, x) :: del j r
theorem get_del {j : Nat} : ∀ (rows : List (Nat × Bool × SRow)) (q : Nat), get (del j rows) q = if q = j then none else get rows q
  | [], q => by simp [del, get]
  | (i, x) :: r, q => by
    have ih := get_del (j := j) r q
    unfold del
    cases h : Nat.beq i j with
    | true =>
      have := Nat.eq_of_beq_eq_true h
      subst this
      dsimp only
      rw [ih, get_cons]
      by_cases e : q = i
      · rw [if_pos e, if_pos e]
      · rw [if_neg e, if_neg e, if_neg (fun e' => e e'.symm)]
    | false =>
      have hne := Nat.ne_of_beq_eq_false h
      dsimp only
      rw [get_cons, get_cons, ih]
      by_cases e : i = q
      · subst e; rw [if_pos rfl, if_neg hne]; simp
      · rw [if_neg e]; by_cases e2 : q = j
        · simp [e2]
        · simp [e2, e]
theorem Sat.own {base : Nat} {w0 : Base} {β : Nat → Nat} {a : Act} {w : World} {fr : List (Nat × SV)} {rows : List (Nat × Bool × SRow)} {nx n : Nat} (s i j : Nat) {t : TypeId} {cs : List SV} (hs : Sat base w0 ⟨fr, rows, nx, n⟩ β a w)
    (hsl : get fr s = some (.ptr j 0)) (hj : get rows j = some (true, .cells t cs)) (hi : i < nx) (hij : i ≠ j) (hn0 : w0.n0 ≤ i) (hgi : get rows i = none)
    (hno : (mentF i fr || mentR i rows) = false) : Sat base w0 ⟨(s, .ptr i 0) :: fr, (i, true, .cells t cs) :: del j rows, nx, n⟩ (fun q => if q = i then β j else β q) a w := by
  obtain ⟨h1, h2, h3, h4⟩ := hs
  simp only [Bool.or_eq_false_iff] at hno
  have hβ : ∀ q, q ≠ i → (fun q => if q = i then β j else β q) q = β q := fun q hq => by dsimp only; rw [if_neg hq]
  obtain ⟨k1, k2, k3, k4⟩ := h4.row j _ _ hj
  refine ⟨h1, h2, fun s' v hv => ?_, ?_⟩
  · rw [get_cons] at hv
    by_cases e : s = s'
    · rw [if_pos e] at hv
      cases hv
      subst e
      obtain ⟨e1, e2⟩ := h3 s _ hsl
      refine ⟨?_, hi⟩
      rw [e1]
      simp [SV.den]
    · rw [if_neg e] at hv
      obtain ⟨e1, e2⟩ := h3 s' v hv
      exact ⟨by rw [e1, ment_den hβ v (mentF_get fr hno.1 hv)], e2⟩
  refine ⟨h4.below, h4.base_le, fun q o r hq => ?_, fun q hq => ?_, fun q p r o r' hq hp hpq => ?_, h4.n0, fun q hq => ?_⟩
  · rw [get_cons] at hq
    by_cases e : i = q
    · rw [if_pos e] at hq
      cases hq
      subst e
      try dsimp only
      rw [if_pos rfl]
      refine ⟨?_, k2, hi, k4⟩
      simp only [RowIs] at k1 ⊢; rw [ments_den hβ cs (mentR_get rows hno.2 hj)]; exact k1
    · rw [if_neg e, get_del] at hq
      split at hq
      · cases hq
      obtain ⟨m1, m2, m3, m4⟩ := h4.row q o r hq
      try dsimp only
      rw [if_neg (fun e' => e e'.symm)]
      refine ⟨?_, m2, m3, m4⟩
      cases r with
      | cells t cs => simp only [RowIs] at m1 ⊢; rw [ments_den hβ cs (mentR_get rows hno.2 hq)]; exact m1
      | blob Φ => exact m1
  · have hq : q < nx := hq
    try dsimp only
    split
    · exact h4.lt j k3
    · exact h4.lt q hq
  · rw [get_cons] at hq hp
    by_cases e : i = q
    · rw [if_neg (fun e' => hpq (e'.symm.trans e)), get_del] at hp
      split at hp
      · cases hp
      rename_i hpj
      try dsimp only
      rw [if_pos e.symm, if_neg (fun e' => hpq (e'.trans e))]
      exact h4.inj j p _ o r' hj hp hpj
    · rw [if_neg e, get_del] at hq
      split at hq
      · cases hq
      rename_i hqj
      have e' : ¬ q = i := fun e' => e e'.symm
      try dsimp only
      rw [if_neg e']
      by_cases e2 : i = p
      · rw [if_pos e2.symm]
        exact h4.inj q j r _ _ hq hj (fun e3 => hqj e3.symm)
      · rw [if_neg e2, get_del] at hp
        split at hp
        · cases hp
        have e4 : ¬ p = i := fun e' => e2 e'.symm
        rw [if_neg e4]
        exact h4.inj q p r o r' hq hp hpq
  · have hq : q < w0.n0 := hq
    try dsimp only
    rw [if_neg (by omega)]; exact h4.ext q hq
end Sym
end Go.Proofs.YtfodbfbljeeojaaGreatDoor
namespace Go.Proofs.YtfodbfbljeeojaaGreatDoor
open Go.RowKit
namespace Sym
open ExP (nd)
theorem Sat.learnB {base : Nat} {w0 : Base} {act : Act} {w w' : World} {fr : List (Nat × SV)} {n nx : Nat} {rows : List (Nat × Bool × SRow)} {β : Nat → Nat} {a : Option Addr} {xs : List Value} (h0 : 0 < base) (hb : base ≤ w.heap.size) (hb' : w.heap.size ≤ w'.heap.size)
    (hs : Sat base w0 ⟨fr, rows, nx, n⟩ β act w') (ho : ∀ i r, get rows i = some (true, r) → base ≤ β i ∧ β i < w.heap.size) (hsl : SlAt a xs w') (hf : FreshX a xs w ∨ ∀ ad, a = some ad → ∀ i r, get rows i = some (true, r) → β i ≠ ad.block) :
    ∃ q, Sat base w0 ⟨fr, (nx, false, .blob (SlB a xs)) :: rows, nx + 1, n⟩ (fun i => if i = nx then q else β i) act w' := by
  have hex : ∃ q, q < w'.heap.size ∧ SlB a xs q w'.heap[q]? ∧ ∀ i r, get rows i = some (true, r) → β i ≠ q := by
    cases xs with
    | nil => exact ⟨0, by omega, fun _ _ i v hi => by simp at hi, fun i r hi => by have := (ho i r hi).1; omega⟩
    | cons y r =>
      obtain ⟨ad, e, h1, _⟩ := hsl 0 y rfl
      refine ⟨ad.block, h1, fun W hW i v hi => ?_, fun i r hi => ?_⟩
      · obtain ⟨ad', e', h2, h3⟩ := hsl i v hi
        rw [e] at e'
        cases e'
        exact ⟨ad, e, rfl, by rw [World.cell?_of_block (w := w') (by rw [add_block]; exact hW)]; exact h3⟩
      · rcases hf with hf | hf
        · have := hf (by simp) ad e
          have := (ho i r hi).2
          omega
        · exact hf ad e i r hi
  obtain ⟨q, h2, h3, h4⟩ := hex
  exact ⟨q, hs.learn (o := false) h2 h3 (fun e => by cases e) h4⟩
end Sym
open Sym
/-- a function that answers with a fraction whose slices are newly made or lie in a list -/
def FrAny (L : List (Option Addr)) (k : IntKind) (b : Nat) (x : ExP.Num) (w : World) (e : Ending) (w' : World) : Prop :=
  ∃ t : FrV, e = .returned (t.val b) ∧ t.num = x ∧ FrCap b t ∧ (∀ p ∈ t.L k b, SlAt p.1 p.2 w' ∧ (FreshX p.1 p.2 w ∨ p.1 ∈ L)) ∧ Below w.heap.size w w'
theorem callFrL {C : Ctx} {d : Nat} {f : FuncId} {args : List SV} {fr : List (Nat × SV)} {rows : List (Nat × Bool × SRow)} {nx n : Nat} {K : St → Prop} (L : List (Option Addr)) (k : IntKind) (b : Nat) (x : ExP.Num) (h0 : 0 < C.base)
    (he : entersB C.P f = true) (hd : Nat.blt d n = true) (hL : ApartL C L rows nx) (hc : ∀ β w, Mem C.base C.w0 rows nx β w → Calls C.P f (SV.dens β args).toArray w (FrAny L k b x w))
    (h : ∀ a c a2 c2, FrCap b ⟨x.m, x.n, x.d, a, c, a2, c2⟩ → K ⟨(d, .agg [.bool x.m, .any (.slice a (ExP.nd b x.n) c), .any (.slice a2 (ExP.nd b x.d) c2)]) :: fr, (nx + 1, false, .blob (SlB a2 (nv k b x.d))) :: (nx, false, .blob (SlB a (nv k b x.n))) :: rows, nx + 2, n⟩) : CallX C (some d) f args ⟨fr, rows, nx, n⟩ K := by
  unfold CallX
  refine ⟨he, fun β act w hs => (hc β w hs.mem).mono ?_⟩
  rintro e w' ⟨⟨m, tn, td, a, c, a2, c2⟩, rfl, rfl, hcap, hl, hb⟩
  have hm := hs.mem
  have hs' : Sat C.base C.w0 ⟨fr, rows, nx, n⟩ β act w' := ⟨hs.defers, hs.size, hs.slot, hm.belowNext hb⟩
  have hbl := hm.base_le
  have ho : ∀ i r, get rows i = some (true, r) → C.base ≤ β i ∧ β i < w.heap.size := fun i r hi => ⟨(hm.row i true r hi).2.2.2 rfl, hm.lt i (hm.row i true r hi).2.2.1⟩
  have hlt : ∀ i o q, get rows i = some (o, q) → i < nx := fun i o q hi => (hm.row i o q hi).2.2.1
  obtain ⟨g1, g2⟩ := hl (a, nv k b tn) (by simp [FrV.L])
  obtain ⟨g3, g4⟩ := hl (a2, nv k b td) (by simp [FrV.L])
  obtain ⟨p1, k1⟩ := hs'.learnB h0 hbl hb.size ho g1 (g2.imp id (fun hi ad e i r hr => hL β w hm ad (by rw [← e]; exact hi) i r hr))
  have ho2 : ∀ i r, get ((nx, false, SRow.blob (SlB a (nv k b tn))) :: rows) i = some (true, r) → get rows i = some (true, r) ∧ i < nx := fun i r hi => by
    rw [get_cons] at hi
    by_cases e0 : nx = i
    · rw [if_pos e0] at hi; cases hi
    · rw [if_neg e0] at hi; exact ⟨hi, hlt _ _ _ hi⟩
  obtain ⟨p2, k2⟩ := k1.learnB (w := w) h0 hbl hb.size (fun i r hi => by
    obtain ⟨hi, hin⟩ := ho2 i r hi
    rw [if_neg (by omega)]; exact ho i r hi) g3 (g4.imp id (fun hi ad e i r hr => by
    obtain ⟨hr, hrn⟩ := ho2 i r hr
    rw [if_neg (by omega)]
    exact hL β w hm ad (by rw [← e]; exact hi) i r hr))
  have hs3 := k2.put (d := d) (by simpa [Nat.blt_eq] using hd) (v := .agg [.bool m, .any (.slice a (ExP.nd b tn) c), .any (.slice a2 (ExP.nd b td) c2)]) ⟨trivial, rfl, rfl, trivial⟩
  exact ⟨_, _, _, rfl, h a c a2 c2 hcap, hs3⟩
theorem Ls2L {w w' : World} {k : IntKind} {b : Nat} {t : FrV} {L : List (Option Addr)} (h1 : SlAt t.a (nv k b t.n) w') (h2 : FreshX t.a (nv k b t.n) w ∨ t.a ∈ L) (h3 : SlAt t.b (nv k b t.d) w') (h4 : FreshX t.b (nv k b t.d) w ∨ t.b ∈ L) : ∀ p ∈ t.L k b, SlAt p.1 p.2 w' ∧ (FreshX p.1 p.2 w ∨ p.1 ∈ L) := fun p hp => by
  simp only [FrV.L, List.mem_cons, List.not_mem_nil, or_false] at hp
  rcases hp with rfl | rfl
  · exact ⟨h1, h2⟩
  · exact ⟨h3, h4⟩
end Go.Proofs.YtfodbfbljeeojaaGreatDoor
