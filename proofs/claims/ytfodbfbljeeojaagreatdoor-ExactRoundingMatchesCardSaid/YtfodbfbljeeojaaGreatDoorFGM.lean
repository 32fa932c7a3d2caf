/- The reference's product, phase by phase. The reference's numbers: halves and products. -/
import Derived.Test.YtfodbfbljeeojaaGreatDoorFGF
import Derived.Test.YtfodbfbljeeojaaGreatDoorFExR1
set_option linter.unusedSimpArgs false
set_option linter.unusedVariables false
namespace Go.Proofs.YtfodbfbljeeojaaGreatDoor
open Sym
namespace ExP
def phA (b x y i N k : Nat) : List Nat := tab N (fun j => dig b j ((x % b ^ i) * y) + if i ≤ j ∧ j < i + k then dig b i x * dig b (j - i) y else 0)
def phB (b x y i N k S : Nat) : List Nat := tab N (fun j => if j < k then dig b j S else mixP b x y i j)
theorem phA_zero (b x y i N : Nat) : phA b x y i N 0 = dgN b N ((x % b ^ i) * y) := by
  unfold phA dgN
  apply tab_congr
  intro j hj
  rw [if_neg (by omega), Nat.add_zero]
theorem phA_set (b x y i N k : Nat) : (phA b x y i N k).set (i + k) (dig b (i + k) ((x % b ^ i) * y) + dig b i x * dig b k y) = phA b x y i N (k + 1) := by
  unfold phA
  rw [tab_set]
  apply tab_congr
  intro j hj
  by_cases h : j = i + k
  · subst h
    rw [if_pos rfl, if_pos (by omega), Nat.add_sub_cancel_left]
  · rw [if_neg h]
    congr 1
    by_cases h2 : i ≤ j ∧ j < i + k
    · rw [if_pos h2, if_pos (by omega)]
    · rw [if_neg h2, if_neg (by omega)]
theorem phA_get {b x y i N k : Nat} (h : i + k < N) : (phA b x y i N k)[i + k]? = some (dig b (i + k) ((x % b ^ i) * y)) := by
  unfold phA; rw [tab_get _ _ _ h, if_neg (by omega), Nat.add_zero]
theorem phA_end {b x y i N : Nat} (hb : 2 ≤ b) : phA b x y i N (nd b y) = phB b x y i N i (((x % b ^ i) * y) % b ^ i) := by
  unfold phA phB mixP
  apply tab_congr
  intro j hj
  by_cases h : j < i
  · rw [if_pos h, if_neg (by omega), Nat.add_zero]
    have e := parts b ((x % b ^ i) * y) i
    have hl : (x % b ^ i) * y % b ^ i < b ^ i := Nat.mod_lt _ (Nat.pow_pos (by omega))
    have e2 := Nat.mod_add_div ((x % b ^ i) * y) (b ^ i)
    rw [Nat.mul_comm (b ^ i)] at e2
    have e3 := dig_add (by omega : 0 < b) hl (m := (x % b ^ i) * y / b ^ i) j
    rw [e2, if_pos h] at e3
    exact e3
  · rw [if_neg h]
    congr 1
    by_cases h2 : j < i + nd b y
    · rw [if_pos ⟨by omega, h2⟩, if_pos (by omega)]
    · rw [if_neg (by omega), if_pos (by omega), dig_big hb (by omega : nd b y ≤ j - i), Nat.mul_zero]
theorem phB_set {b x y i N k S d : Nat} (hb : 0 < b) (hS : S < b ^ k) (hd : d < b) : (phB b x y i N k S).set k d = phB b x y i N (k + 1) (S + d * b ^ k) := by
  unfold phB
  rw [tab_set]
  apply tab_congr
  intro j hj
  have e := dig_add hb hS (m := d) j
  by_cases h1 : j < k
  · rw [if_neg (by omega), if_pos h1, if_pos (by omega), e, if_pos h1]
  · by_cases h2 : j = k
    · subst h2
      rw [if_pos rfl, if_pos (by omega), e, if_neg h1, Nat.sub_self]
      simp [dig, Nat.mod_eq_of_lt hd]
    · rw [if_neg h2, if_neg h1, if_neg (by omega)]
theorem phB_get {b x y i N k S : Nat} (h : k < N) : (phB b x y i N k S)[k]? = some (mixP b x y i k) := by
  unfold phB; rw [tab_get _ _ _ h, if_neg (by omega)]
theorem phB_end (b x y i N S : Nat) : phB b x y i N N S = dgN b N S := by
  unfold phB dgN; exact tab_congr fun k hk => by rw [if_pos hk]
theorem mixP_le {x y i k : Nat} : mixP 10 x y i k ≤ 90 := by
  unfold mixP
  have h1 := dig_lt (b := 10) (by omega) k ((x % 10 ^ i) * y)
  have h2 := dig_lt (b := 10) (by omega) i x
  have h3 := dig_lt (b := 10) (by omega) (k - i) y
  have h4 : dig 10 i x * dig 10 (k - i) y ≤ 9 * 9 := Nat.mul_le_mul (by omega) (by omega)
  split <;> omega
end ExP
end Go.Proofs.YtfodbfbljeeojaaGreatDoor
namespace Go.Proofs.YtfodbfbljeeojaaGreatDoor
open Go.RowKit
open Sym
attribute [local irreducible] Calls Sym.AggEq ExP.nd ExP.dig ExP.upd ExP.mixP
set_option maxRecDepth 100000 in
set_option maxHeartbeats 2000000 in
theorem half_any (a : Option Addr) (ca x : Nat) (w : World) (hx : ExP.nd 10 x ≤ 100000000) (hs : SlAt a (nv .i64 10 x) w) :
    Calls Tryz.prog 92 #[.slice a (ExP.nd 10 x) ca] w (NatOut .i64 10 (x / 2) w) := by
  obtain ⟨i0, hi, hz0, hz1, hz2⟩ := info_parts intInfo
  have hu := Tryz.underlying34
  have hgx := fun i (h : i < ExP.nd 10 x) => nv_get (k := .i64) h
  have hnx := nv_ne (k := .i64) (b := 10) (x := x)
  have hdx := fun i => ExP.dig_lt (b := 10) (by omega) i x
  have hxl := ExP.nd_lt (b := 10) (by omega) x
  have hTR := fun g (V : Nat) (w' : World) (hV : V < 10 ^ ExP.nd 10 x) hs' => rtrim_any (some ⟨g, 0, none⟩) (ExP.nd 10 x) (ExP.nd 10 x) V w' hV (Nat.le_refl _) hx hs'
  refine enter env_ok Tryz.func92 rfl Tryz.results92 Tryz.ntmps92 [] [] [.any (.slice a (ExP.nd 10 x) ca)] ⟨rfl, trivial⟩ (Nat.le_of_ble_eq_true rfl) w _ 1000 ?_
  generalize ExP.nd 10 x = n at *
  repeat' (first | ((with_reducible first | show wpS _ _ _ _ | show putD _ _ _ _ | show putW _ _ _ _ | show splitG _ _ _ | show wpQ _ _ _ _ _ _ | show wpD _ _ _ _ _ _ _ | show wpX _ _ _ _ _ _ _ | show expX _ _ _ _ _ _ | show stepX _ _ _ _ | show keepR _ _ _ | show wpY _ _ _ _); conv => whnf) | ((with_reducible show RetN _ _ _); refine retB fun β => ?_) | ((with_reducible show _ ∧ _); first | (apply And.intro; (· intro h; exfalso; first | omega | (revert h; decide)); intro _) | (apply And.intro; rotate_left; (· intro h; exfalso; first | omega | (revert h; decide)); intro _) | (refine ⟨fun _ => ?_, fun _ => ?_⟩) | (apply And.intro; · kernel_rfl) | (apply And.intro; · (show inK _ _; unfold inK; omega)) | (apply And.intro; · (show (_ : Int) ≤ 9223372036854775807; (try simp only [List.length_append, List.length_drop, List.length_take, List.length_cons, List.length_nil]); omega))) | ((with_reducible show AllBe _); refine allBe fun βe => ?_; conv => whnf) | ((with_reducible show bothX _ _); refine bothI ?_ ?_; conv => whnf) | (with_reducible exact trivial) | ((with_reducible show CallN _ _ _ _ _ _ _ _); refine call_of env_ok rfl 1000 ?_) | ((with_reducible show XopN _ _ _ _ _ _); refine xop_of env_ok rfl 1000 ?_) | ((with_reducible show CallX _ _ _ _ _ _); first | fail) | ((with_reducible show OpX _ _ _ _); first | (refine opx_make (m := n) rfl (by omega) rfl rfl hu hi hz0 hz1 rfl (by rw [hz2]; omega) (by unfold maxLen; omega) (fun g => ?_))) | ((with_reducible show ∃ _ : SV, _); first | (refine ⟨_, ?ok, x_len Tryz.underlying34, ?_⟩; (case ok => exact fun _ _ => trivial))) | ((with_reducible show ∃ _, _); first | fail))
  rw [rep_row 10]
  refine loop env_ok rfl (T := {t : Nat × Nat × Nat // t.1 ≤ n ∧ ExP.DivI 10 x 2 t.1 t.2.1 t.2.2}) (fun t => ⟨[(0, .any (.slice a n ca)), (3, .any (.slice (some ⟨g, 0, none⟩) n n)), (4, .int .i64 (t.1.2.2 : Nat)), (5, .int .i64 ((t.1.1 : Nat) - 1 : Int))], [(0, true, .blob (OwnS 3 1 g n n (valsK .i64 (ExP.dgN 10 n t.1.2.1))))], 1, 33⟩) (fun t => t.1.1) ⟨(n, 0, 0), Nat.le_refl _, ExP.div_start hxl⟩ 1000 [] [] (fun _ => by exact Nat.zero_le _) (by dsimp only; ((with_reducible show wk _ _); repeat' (first | exact trivial | exact eqSV_refl _ | (refine eqI ?_) | (refine eqS ?_) | (with_reducible exact rfl) | apply And.intro | exact Nat.zero_lt_one | exact Nat.le_of_ble_eq_true rfl | (with_reducible assumption) | ((show (_ : Int) = _); (try dsimp only); omega) | ((show eqSV _ _); simp [eqSV, isB, bval, *]; done) | rfl)); all_goals exact fun b x h => h) (fun t I hI => ?_)
  obtain ⟨⟨j, V, r⟩, hj, hD⟩ := t
  dsimp only at hj hD ⊢
  by_cases hj0 : j = 0
  · subst hj0
    obtain ⟨rfl, -⟩ := ExP.div_end hD
    have hl := ExP.div_lt (by omega) hD hxl
    repeat' (first | ((with_reducible first | show wpS _ _ _ _ | show putD _ _ _ _ | show putW _ _ _ _ | show splitG _ _ _ | show wpQ _ _ _ _ _ _ | show wpD _ _ _ _ _ _ _ | show wpX _ _ _ _ _ _ _ | show expX _ _ _ _ _ _ | show stepX _ _ _ _ | show keepR _ _ _ | show wpY _ _ _ _); conv => whnf) | ((with_reducible show RetN _ _ _); refine retB fun β => ?_) | ((with_reducible show _ ∧ _); first | (apply And.intro; (· intro h; exfalso; first | omega | (revert h; decide)); intro _) | (apply And.intro; rotate_left; (· intro h; exfalso; first | omega | (revert h; decide)); intro _) | (refine ⟨fun _ => ?_, fun _ => ?_⟩) | (apply And.intro; · kernel_rfl) | (apply And.intro; · (show inK _ _; unfold inK; omega)) | (apply And.intro; · (show (_ : Int) ≤ 9223372036854775807; (try simp only [List.length_append, List.length_drop, List.length_take, List.length_cons, List.length_nil]); omega))) | ((with_reducible show AllBe _); refine allBe fun βe => ?_; conv => whnf) | ((with_reducible show bothX _ _); refine bothI ?_ ?_; conv => whnf) | (with_reducible exact trivial) | ((with_reducible show CallN _ _ _ _ _ _ _ _); refine call_of env_ok rfl 1000 ?_) | ((with_reducible show XopN _ _ _ _ _ _); refine xop_of env_ok rfl 1000 ?_) | ((with_reducible show CallX _ _ _ _ _ _); first | (refine callX (.any (.slice (some ⟨g, 0, none⟩) (ExP.nd 10 (x / 2)) n)) (by kernel_rfl) rfl (rfl) (fun β w hm => hTR g (x / 2) w hl (Mem.own hm 0 rfl).1) ?_)) | ((with_reducible show OpX _ _ _ _); first | fail) | ((with_reducible show ∃ _ : SV, _); first | fail) | ((with_reducible show ∃ _, _); first | fail))
    refine ret fun β w' hm => ?_
    obtain ⟨q1, q2, q3⟩ := Mem.own hm 0 rfl
    have hle := ExP.nd_le (b := 10) (by omega) hl
    exact ⟨_, n, rfl, sl_pre q1 (dgN_pre hle .i64), fresh_own q2 rfl, (fun h => by cases h), hle, hm.below⟩
  · obtain ⟨i, rfl⟩ : ∃ i, j = i + 1 := ⟨j - 1, by omega⟩
    obtain ⟨ad, rfl⟩ := SlAt.some hs (hnx (by omega))
    have r1 := sl_read hs (hgx i (by omega))
    have hdx := hdx i
    have hr2 : r < 2 := by rw [hD.r]; exact Nat.mod_lt _ (by omega)
    obtain ⟨hD1, hq⟩ := ExP.div_next (by omega) (by omega) hD rfl
    have hset := ExP.dgN_set (b := 10) (n := n) (V := V) (j := i) (by omega) hq
    generalize ExP.dig 10 i x = dx at *
    repeat' (first | ((with_reducible first | show wpS _ _ _ _ | show putD _ _ _ _ | show putW _ _ _ _ | show splitG _ _ _ | show wpQ _ _ _ _ _ _ | show wpD _ _ _ _ _ _ _ | show wpX _ _ _ _ _ _ _ | show expX _ _ _ _ _ _ | show stepX _ _ _ _ | show keepR _ _ _ | show wpY _ _ _ _); conv => whnf) | ((with_reducible show RetN _ _ _); refine retB fun β => ?_) | ((with_reducible show _ ∧ _); first | (apply And.intro; (· intro h; exfalso; first | omega | (revert h; decide)); intro _) | (apply And.intro; rotate_left; (· intro h; exfalso; first | omega | (revert h; decide)); intro _) | (refine ⟨fun _ => ?_, fun _ => ?_⟩) | (apply And.intro; · kernel_rfl) | (apply And.intro; · (show inK _ _; unfold inK; omega)) | (apply And.intro; · (show (_ : Int) ≤ 9223372036854775807; (try simp only [List.length_append, List.length_drop, List.length_take, List.length_cons, List.length_nil]); omega))) | ((with_reducible show AllBe _); refine allBe fun βe => ?_; conv => whnf) | ((with_reducible show bothX _ _); refine bothI ?_ ?_; conv => whnf) | (with_reducible exact trivial) | ((with_reducible show CallN _ _ _ _ _ _ _ _); refine call_of env_ok rfl 1000 ?_) | ((with_reducible show XopN _ _ _ _ _ _); refine xop_of env_ok rfl 1000 ?_) | ((with_reducible show CallX _ _ _ _ _ _); first | fail) | ((with_reducible show OpX _ _ _ _); first | (refine opx_store env_ok 0 (u := .int .i64 (((dx + r * 10) / 2 : Nat) : Int)) rfl rfl rfl rfl (fun β => by simp only [SV.den]; congr 1; omega) rfl rfl (by omega) ?_)) | ((with_reducible show ∃ _ : SV, _); first | (refine ⟨_, ?ok, x_len Tryz.underlying34, ?_⟩; (case ok => exact fun _ _ => trivial)) | (refine ⟨_, ?ok, x_index (j := i) (by omega) Tryz.underlying34 (fun w => Tryz.sizeOf3 w) (by omega), ?_⟩; (case ok => exact fun _ _ => rfl)) | (refine ⟨.int .i64 (dx : Nat), fun _ _ => trivial, x_load1 (fun w => Tryz.isAgg3 w) (fun w' hb β => by rw [Nat.mul_one]; exact r1 w' hb), ?_⟩) | (refine ⟨_, ?ok, x_rem (by omega) (by omega), ?_⟩; (case ok => exact fun _ _ => trivial)) | (refine ⟨_, ?ok, x_quo (by omega) (by omega) (by simp only [inK]; omega), ?_⟩; (case ok => exact fun _ _ => trivial))) | ((with_reducible show ∃ _, _); first | fail))
    refine hI _ ⟨(i, ExP.upd 10 V i ((dx + r * 10) / 2), (dx + r * 10) % 2), by dsimp only; omega, hD1⟩ (by dsimp only; omega) (by dsimp only; ((with_reducible show wk _ _); repeat' (first | exact trivial | exact eqSV_refl _ | (refine eqI ?_) | (refine eqS ?_) | (with_reducible exact rfl) | apply And.intro | exact Nat.zero_lt_one | exact Nat.le_of_ble_eq_true rfl | (with_reducible assumption) | ((show (_ : Int) = _); (try dsimp only); omega) | ((show eqSV _ _); simp [eqSV, isB, bval, *]; done) | rfl)); all_goals (rw [Nat.mul_one, valsK_set, hset]; exact fun b x h => h))
set_option maxRecDepth 100000 in
set_option maxHeartbeats 4000000 in
theorem rtimes_any (a b : Option Addr) (ca cb x y : Nat) (w : World) (hx : ExP.nd 10 x ≤ 40000000) (hy : ExP.nd 10 y ≤ 40000000) (hs : SlAt a (nv .i64 10 x) w) (ht : SlAt b (nv .i64 10 y) w) :
    Calls Tryz.prog 63 #[.slice a (ExP.nd 10 x) ca, .slice b (ExP.nd 10 y) cb] w (NatOut .i64 10 (x * y) w) := by
  obtain ⟨i0, hi, hz0, hz1, hz2⟩ := info_parts intInfo
  have hu := Tryz.underlying34
  have hgx := fun i (h : i < ExP.nd 10 x) => nv_get (k := .i64) h
  have hgy := fun i (h : i < ExP.nd 10 y) => nv_get (k := .i64) h
  have hnx := nv_ne (k := .i64) (b := 10) (x := x)
  have hny := nv_ne (k := .i64) (b := 10) (x := y)
  have hdx := fun i => ExP.dig_lt (b := 10) (by omega) i x
  have hdy := fun i => ExP.dig_lt (b := 10) (by omega) i y
  have hxl := ExP.nd_lt (b := 10) (by omega) x
  have hyl := ExP.nd_lt (b := 10) (by omega) y
  have hTR := fun g (V : Nat) (w' : World) (hV : V < 10 ^ (ExP.nd 10 x + ExP.nd 10 y)) hs' => rtrim_any (some ⟨g, 0, none⟩) (ExP.nd 10 x + ExP.nd 10 y) (ExP.nd 10 x + ExP.nd 10 y) V w' hV (Nat.le_refl _) (by omega) hs'
  have hend := fun i => ExP.phA_end (b := 10) (x := x) (y := y) (i := i) (N := ExP.nd 10 x + ExP.nd 10 y) (by omega)
  refine enter env_ok Tryz.func63 rfl Tryz.results63 Tryz.ntmps63 [] [100008] [.any (.slice a (ExP.nd 10 x) ca), .any (.slice b (ExP.nd 10 y) cb)] ⟨rfl, rfl, trivial⟩ (Nat.le_of_ble_eq_true rfl) w _ 1000 ?_
  generalize ExP.nd 10 x = n at *
  generalize ExP.nd 10 y = m at *
  repeat' (first | ((with_reducible first | show wpS _ _ _ _ | show putD _ _ _ _ | show putW _ _ _ _ | show splitG _ _ _ | show wpQ _ _ _ _ _ _ | show wpD _ _ _ _ _ _ _ | show wpX _ _ _ _ _ _ _ | show expX _ _ _ _ _ _ | show stepX _ _ _ _ | show keepR _ _ _ | show wpY _ _ _ _); conv => whnf) | ((with_reducible show RetN _ _ _); refine retB fun β => ?_) | ((with_reducible show _ ∧ _); first | (apply And.intro; (· intro h; exfalso; first | omega | (revert h; decide)); intro _) | (apply And.intro; rotate_left; (· intro h; exfalso; first | omega | (revert h; decide)); intro _) | (refine ⟨fun _ => ?_, fun _ => ?_⟩) | (apply And.intro; · kernel_rfl) | (apply And.intro; · (show inK _ _; unfold inK; omega)) | (apply And.intro; · (show (_ : Int) ≤ 9223372036854775807; (try simp only [List.length_append, List.length_drop, List.length_take, List.length_cons, List.length_nil]); omega))) | ((with_reducible show AllBe _); refine allBe fun βe => ?_; conv => whnf) | ((with_reducible show bothX _ _); refine bothI ?_ ?_; conv => whnf) | (with_reducible exact trivial) | ((with_reducible show CallN _ _ _ _ _ _ _ _); refine call_of env_ok rfl 1000 ?_) | ((with_reducible show XopN _ _ _ _ _ _); refine xop_of env_ok rfl 1000 ?_) | ((with_reducible show CallX _ _ _ _ _ _); first | fail) | ((with_reducible show OpX _ _ _ _); first | (refine opx_make (m := n + m) rfl (by omega) rfl rfl hu hi hz0 hz1 rfl (by rw [hz2]; omega) (by unfold maxLen; omega) (fun g => ?_))) | ((with_reducible show ∃ _ : SV, _); first | (refine ⟨_, ?ok, x_len Tryz.underlying34, ?_⟩; (case ok => exact fun _ _ => trivial))) | ((with_reducible show ∃ _, _); first | fail))
  rw [rep_row 10]
  refine loop env_ok rfl (T := {i : Nat // i ≤ n}) (fun t => ⟨[(0, .any (.slice a n ca)), (1, .any (.slice b m cb)), (5, .any (.slice (some ⟨g, 0, none⟩) (n + m) (n + m))), (18, .int .i64 (n : Nat)), (19, .int .i64 (t.1 : Nat))], [(0, true, .blob (OwnS 3 1 g (n + m) (n + m) (valsK .i64 (ExP.dgN 10 (n + m) ((x % 10 ^ t.1) * y)))))], 1, 68⟩) (fun t => n - t.1) ⟨0, Nat.zero_le _⟩ 1000 [] [100008] (fun _ => by exact Nat.zero_le _) (by dsimp only; rw [Nat.pow_zero, Nat.mod_one, Nat.zero_mul]; ((with_reducible show wk _ _); repeat' (first | exact trivial | exact eqSV_refl _ | (refine eqI ?_) | (refine eqS ?_) | (with_reducible exact rfl) | apply And.intro | exact Nat.zero_lt_one | exact Nat.le_of_ble_eq_true rfl | (with_reducible assumption) | ((show (_ : Int) = _); (try dsimp only); omega) | ((show eqSV _ _); simp [eqSV, isB, bval, *]; done) | rfl)); all_goals exact fun b x h => h) (fun t I hI => ?_)
  obtain ⟨i, hin⟩ := t
  dsimp only at hin ⊢
  by_cases hlt : i < n
  · obtain ⟨ad, rfl⟩ := SlAt.some hs (hnx (by omega))
    have r1 := sl_read hs (hgx i hlt)
    have hdxi := hdx i
    have hend := hend i
    have hN : (x % 10 ^ (i + 1)) * y < 10 ^ (n + m) := by
      have h1 : x % 10 ^ (i + 1) ≤ x := Nat.mod_le _ _
      have h2 : (x % 10 ^ (i + 1)) * y ≤ x * y := Nat.mul_le_mul_right _ h1
      have h3 : x * y < 10 ^ (n + m) := by rw [Nat.pow_add]; exact Nat.mul_lt_mul'' hxl hyl
      omega
    have hyN : y < 10 ^ (n + m - i) := ExP.lt_pow_mono (by omega) hyl (by omega)
    rw [← ExP.phA_zero]
    repeat' (first | ((with_reducible first | show wpS _ _ _ _ | show putD _ _ _ _ | show putW _ _ _ _ | show splitG _ _ _ | show wpQ _ _ _ _ _ _ | show wpD _ _ _ _ _ _ _ | show wpX _ _ _ _ _ _ _ | show expX _ _ _ _ _ _ | show stepX _ _ _ _ | show keepR _ _ _ | show wpY _ _ _ _); conv => whnf) | ((with_reducible show RetN _ _ _); refine retB fun β => ?_) | ((with_reducible show _ ∧ _); first | (apply And.intro; (· intro h; exfalso; first | omega | (revert h; decide)); intro _) | (apply And.intro; rotate_left; (· intro h; exfalso; first | omega | (revert h; decide)); intro _) | (refine ⟨fun _ => ?_, fun _ => ?_⟩) | (apply And.intro; · kernel_rfl) | (apply And.intro; · (show inK _ _; unfold inK; omega)) | (apply And.intro; · (show (_ : Int) ≤ 9223372036854775807; (try simp only [List.length_append, List.length_drop, List.length_take, List.length_cons, List.length_nil]); omega))) | ((with_reducible show AllBe _); refine allBe fun βe => ?_; conv => whnf) | ((with_reducible show bothX _ _); refine bothI ?_ ?_; conv => whnf) | (with_reducible exact trivial) | ((with_reducible show CallN _ _ _ _ _ _ _ _); refine call_of env_ok rfl 1000 ?_) | ((with_reducible show XopN _ _ _ _ _ _); refine xop_of env_ok rfl 1000 ?_) | ((with_reducible show CallX _ _ _ _ _ _); first | fail) | ((with_reducible show OpX _ _ _ _); first | fail) | ((with_reducible show ∃ _ : SV, _); first | (refine ⟨_, ?ok, x_len Tryz.underlying34, ?_⟩; (case ok => exact fun _ _ => trivial))) | ((with_reducible show ∃ _, _); first | fail))
    refine loop env_ok rfl (T := {k : Nat // k ≤ m}) (fun t => ⟨[(0, .any (.slice (some ad) n ca)), (1, .any (.slice b m cb)), (5, .any (.slice (some ⟨g, 0, none⟩) (n + m) (n + m))), (6, .int .i64 (i : Nat)), (18, .int .i64 (n : Nat)), (19, .int .i64 (i : Nat)), (23, .int .i64 (m : Nat)), (24, .int .i64 (t.1 : Nat))], [(0, true, .blob (OwnS 3 1 g (n + m) (n + m) (valsK .i64 (ExP.phA 10 x y i (n + m) t.1))))], 1, 68⟩) (fun t => m - t.1) ⟨0, Nat.zero_le _⟩ 1000 [] [100008] (fun _ => by exact Nat.zero_le _) (by ((with_reducible show wk _ _); repeat' (first | exact trivial | exact eqSV_refl _ | (refine eqI ?_) | (refine eqS ?_) | (with_reducible exact rfl) | apply And.intro | exact Nat.zero_lt_one | exact Nat.le_of_ble_eq_true rfl | (with_reducible assumption) | ((show (_ : Int) = _); (try dsimp only); omega) | ((show eqSV _ _); simp [eqSV, isB, bval, *]; done) | rfl)); all_goals exact fun b x h => h) (fun t I2 hI2 => ?_)
    obtain ⟨k, hkm⟩ := t
    dsimp only at hkm ⊢
    by_cases hlk : k < m
    · obtain ⟨bd, rfl⟩ := SlAt.some ht (hny (by omega))
      have r2 := sl_read ht (hgy k hlk)
      have hdyk := hdy k
      have hset := ExP.phA_set 10 x y i (n + m) k
      have r3 := valsK_get (k := .i64) (ExP.phA_get (b := 10) (x := x) (y := y) (i := i) (N := n + m) (k := k) (by omega))
      have hdv := ExP.dig_lt (b := 10) (by omega) (i + k) ((x % 10 ^ i) * y)
      generalize ExP.dig 10 (i + k) ((x % 10 ^ i) * y) = dv at *
      generalize ExP.dig 10 i x = dx at *
      generalize ExP.dig 10 k y = dy at *
      have hp0 : 0 ≤ (dx : Int) * (dy : Int) := Int.mul_nonneg (by omega) (by omega)
      have hp1 : (dx : Int) * (dy : Int) ≤ 81 := by
        have : dx * dy ≤ 9 * 9 := Nat.mul_le_mul (by omega) (by omega)
        have h2 : ((dx * dy : Nat) : Int) ≤ 81 := by omega
        simpa using h2
      repeat' (first | ((with_reducible first | show wpS _ _ _ _ | show putD _ _ _ _ | show putW _ _ _ _ | show splitG _ _ _ | show wpQ _ _ _ _ _ _ | show wpD _ _ _ _ _ _ _ | show wpX _ _ _ _ _ _ _ | show expX _ _ _ _ _ _ | show stepX _ _ _ _ | show keepR _ _ _ | show wpY _ _ _ _); conv => whnf) | ((with_reducible show RetN _ _ _); refine retB fun β => ?_) | ((with_reducible show _ ∧ _); first | (apply And.intro; (· intro h; exfalso; first | omega | (revert h; decide)); intro _) | (apply And.intro; rotate_left; (· intro h; exfalso; first | omega | (revert h; decide)); intro _) | (refine ⟨fun _ => ?_, fun _ => ?_⟩) | (apply And.intro; · kernel_rfl) | (apply And.intro; · (show inK _ _; unfold inK; omega)) | (apply And.intro; · (show (_ : Int) ≤ 9223372036854775807; (try simp only [List.length_append, List.length_drop, List.length_take, List.length_cons, List.length_nil]); omega))) | ((with_reducible show AllBe _); refine allBe fun βe => ?_; conv => whnf) | ((with_reducible show bothX _ _); refine bothI ?_ ?_; conv => whnf) | (with_reducible exact trivial) | ((with_reducible show CallN _ _ _ _ _ _ _ _); refine call_of env_ok rfl 1000 ?_) | ((with_reducible show XopN _ _ _ _ _ _); refine xop_of env_ok rfl 1000 ?_) | ((with_reducible show CallX _ _ _ _ _ _); first | fail) | ((with_reducible show OpX _ _ _ _); first | (refine opx_store env_ok 0 (u := .int .i64 ((dv + dx * dy : Nat) : Int)) rfl rfl rfl rfl (fun β => by simp [SV.den]) rfl rfl (by omega) ?_)) | ((with_reducible show ∃ _ : SV, _); first | (refine ⟨_, ?ok, x_len Tryz.underlying34, ?_⟩; (case ok => exact fun _ _ => trivial)) | (refine ⟨_, ?ok, x_index (j := i) (by omega) Tryz.underlying34 (fun w => Tryz.sizeOf3 w) (by omega), ?_⟩; (case ok => exact fun _ _ => rfl)) | (refine ⟨_, ?ok, x_index (j := k) (by omega) Tryz.underlying34 (fun w => Tryz.sizeOf3 w) (by omega), ?_⟩; (case ok => exact fun _ _ => rfl)) | (refine ⟨_, ?ok, x_index (j := i + k) (by omega) Tryz.underlying34 (fun w => Tryz.sizeOf3 w) (by omega), ?_⟩; (case ok => exact fun _ _ => rfl)) | (refine ⟨.int .i64 (dx : Nat), fun _ _ => trivial, x_load1 (fun w => Tryz.isAgg3 w) (fun w' hb β => by rw [Nat.mul_one]; exact r1 w' hb), ?_⟩) | (refine ⟨.int .i64 (dy : Nat), fun _ _ => trivial, x_load1 (fun w => Tryz.isAgg3 w) (fun w' hb β => by rw [Nat.mul_one]; exact r2 w' hb), ?_⟩) | (refine ⟨.int .i64 (dv : Nat), fun _ _ => trivial, x_loadO 0 (.int .i64 (dv : Nat)) (fun w => Tryz.isAgg3 w) rfl (fun β => by rw [Nat.mul_one]; exact r3), ?_⟩)) | ((with_reducible show ∃ _, _); first | fail))
      all_goals (refine hI2 _ ⟨k + 1, by omega⟩ (by dsimp only; omega) (by ((with_reducible show wk _ _); repeat' (first | exact trivial | exact eqSV_refl _ | (refine eqI ?_) | (refine eqS ?_) | (with_reducible exact rfl) | apply And.intro | exact Nat.zero_lt_one | exact Nat.le_of_ble_eq_true rfl | (with_reducible assumption) | ((show (_ : Int) = _); (try dsimp only); omega) | ((show eqSV _ _); simp [eqSV, isB, bval, *]; done) | rfl)); all_goals (rw [Nat.mul_one, valsK_set, hset]; exact fun b x h => h)))
    · obtain rfl : k = m := by omega
      rw [hend]
      repeat' (first | ((with_reducible first | show wpS _ _ _ _ | show putD _ _ _ _ | show putW _ _ _ _ | show splitG _ _ _ | show wpQ _ _ _ _ _ _ | show wpD _ _ _ _ _ _ _ | show wpX _ _ _ _ _ _ _ | show expX _ _ _ _ _ _ | show stepX _ _ _ _ | show keepR _ _ _ | show wpY _ _ _ _); conv => whnf) | ((with_reducible show RetN _ _ _); refine retB fun β => ?_) | ((with_reducible show _ ∧ _); first | (apply And.intro; (· intro h; exfalso; first | omega | (revert h; decide)); intro _) | (apply And.intro; rotate_left; (· intro h; exfalso; first | omega | (revert h; decide)); intro _) | (refine ⟨fun _ => ?_, fun _ => ?_⟩) | (apply And.intro; · kernel_rfl) | (apply And.intro; · (show inK _ _; unfold inK; omega)) | (apply And.intro; · (show (_ : Int) ≤ 9223372036854775807; (try simp only [List.length_append, List.length_drop, List.length_take, List.length_cons, List.length_nil]); omega))) | ((with_reducible show AllBe _); refine allBe fun βe => ?_; conv => whnf) | ((with_reducible show bothX _ _); refine bothI ?_ ?_; conv => whnf) | (with_reducible exact trivial) | ((with_reducible show CallN _ _ _ _ _ _ _ _); refine call_of env_ok rfl 1000 ?_) | ((with_reducible show XopN _ _ _ _ _ _); refine xop_of env_ok rfl 1000 ?_) | ((with_reducible show CallX _ _ _ _ _ _); first | fail) | ((with_reducible show OpX _ _ _ _); first | fail) | ((with_reducible show ∃ _ : SV, _); first | fail) | ((with_reducible show ∃ _, _); first | fail))
      refine loop env_ok rfl (T := {t : Nat × Nat × Nat // i ≤ t.1 ∧ t.1 ≤ n + k ∧ t.2.1 ≤ 10 ∧ ExP.CarryI 10 x y i t.1 t.2.1 t.2.2}) (fun t => ⟨[(0, .any (.slice (some ad) n ca)), (1, .any (.slice b k cb)), (5, .any (.slice (some ⟨g, 0, none⟩) (n + k) (n + k))), (8, .int .i64 (t.1.2.1 : Nat)), (9, .int .i64 (t.1.1 : Nat)), (18, .int .i64 (n : Nat)), (19, .int .i64 (i : Nat))], [(0, true, .blob (OwnS 3 1 g (n + k) (n + k) (valsK .i64 (ExP.phB 10 x y i (n + k) t.1.1 t.1.2.2))))], 1, 68⟩) (fun t => n + k - t.1.1) ⟨(i, 0, ((x % 10 ^ i) * y) % 10 ^ i), Nat.le_refl _, by dsimp only; omega, by dsimp only; omega, ExP.carry_start (by omega)⟩ 1000 [] [100008] (fun _ => by exact Nat.zero_le _) (by dsimp only; ((with_reducible show wk _ _); repeat' (first | exact trivial | exact eqSV_refl _ | (refine eqI ?_) | (refine eqS ?_) | (with_reducible exact rfl) | apply And.intro | exact Nat.zero_lt_one | exact Nat.le_of_ble_eq_true rfl | (with_reducible assumption) | ((show (_ : Int) = _); (try dsimp only); omega) | ((show eqSV _ _); simp [eqSV, isB, bval, *]; done) | rfl)); all_goals exact fun b x h => h) (fun t I3 hI3 => ?_)
      obtain ⟨⟨q, c, S⟩, hq1, hq2, hc, hC⟩ := t
      dsimp only at hq1 hq2 hc hC ⊢
      by_cases hlq : q < n + k
      · have hnx := ExP.carry_next (b := 10) (by omega) hC hq1 rfl
        have hml := ExP.mixP_le (x := x) (y := y) (i := i) (k := q)
        have r3 := valsK_get (k := .i64) (ExP.phB_get (b := 10) (x := x) (y := y) (i := i) (N := n + k) (k := q) (S := S) hlq)
        have hset := fun d (hd : d < 10) => ExP.phB_set (b := 10) (x := x) (y := y) (i := i) (N := n + k) (k := q) (S := S) (d := d) (by omega) hC.lt hd
        generalize ExP.mixP 10 x y i q = mp at *
        repeat' (first | ((with_reducible first | show wpS _ _ _ _ | show putD _ _ _ _ | show putW _ _ _ _ | show splitG _ _ _ | show wpQ _ _ _ _ _ _ | show wpD _ _ _ _ _ _ _ | show wpX _ _ _ _ _ _ _ | show expX _ _ _ _ _ _ | show stepX _ _ _ _ | show keepR _ _ _ | show wpY _ _ _ _); conv => whnf) | ((with_reducible show RetN _ _ _); refine retB fun β => ?_) | ((with_reducible show _ ∧ _); first | (apply And.intro; (· intro h; exfalso; first | omega | (revert h; decide)); intro _) | (apply And.intro; rotate_left; (· intro h; exfalso; first | omega | (revert h; decide)); intro _) | (refine ⟨fun _ => ?_, fun _ => ?_⟩) | (apply And.intro; · kernel_rfl) | (apply And.intro; · (show inK _ _; unfold inK; omega)) | (apply And.intro; · (show (_ : Int) ≤ 9223372036854775807; (try simp only [List.length_append, List.length_drop, List.length_take, List.length_cons, List.length_nil]); omega))) | ((with_reducible show AllBe _); refine allBe fun βe => ?_; conv => whnf) | ((with_reducible show bothX _ _); refine bothI ?_ ?_; conv => whnf) | (with_reducible exact trivial) | ((with_reducible show CallN _ _ _ _ _ _ _ _); refine call_of env_ok rfl 1000 ?_) | ((with_reducible show XopN _ _ _ _ _ _); refine xop_of env_ok rfl 1000 ?_) | ((with_reducible show CallX _ _ _ _ _ _); first | fail) | ((with_reducible show OpX _ _ _ _); first | (refine opx_store env_ok 0 (u := .int .i64 (((mp + c) % 10 : Nat) : Int)) rfl rfl rfl rfl (fun β => by simp only [SV.den]; congr 1) rfl rfl (by omega) ?_)) | ((with_reducible show ∃ _ : SV, _); first | (refine ⟨_, ?ok, x_len Tryz.underlying34, ?_⟩; (case ok => exact fun _ _ => trivial)) | (refine ⟨_, ?ok, x_index (j := q) (by omega) Tryz.underlying34 (fun w => Tryz.sizeOf3 w) (by omega), ?_⟩; (case ok => exact fun _ _ => rfl)) | (refine ⟨.int .i64 (mp : Nat), fun _ _ => trivial, x_loadO 0 (.int .i64 (mp : Nat)) (fun w => Tryz.isAgg3 w) rfl (fun β => by rw [Nat.mul_one]; exact r3), ?_⟩) | (refine ⟨_, ?ok, x_rem (by omega) (by omega), ?_⟩; (case ok => exact fun _ _ => trivial)) | (refine ⟨_, ?ok, x_quo (by omega) (by omega) (by simp only [inK]; omega), ?_⟩; (case ok => exact fun _ _ => trivial))) | ((with_reducible show ∃ _, _); first | fail))
        refine hI3 _ ⟨(q + 1, (mp + c) / 10, S + (mp + c) % 10 * 10 ^ q), by dsimp only; omega, by dsimp only; omega, by dsimp only; omega, hnx⟩ (by dsimp only; omega) (by dsimp only; ((with_reducible show wk _ _); repeat' (first | exact trivial | exact eqSV_refl _ | (refine eqI ?_) | (refine eqS ?_) | (with_reducible exact rfl) | apply And.intro | exact Nat.zero_lt_one | exact Nat.le_of_ble_eq_true rfl | (with_reducible assumption) | ((show (_ : Int) = _); (try dsimp only); omega) | ((show eqSV _ _); simp [eqSV, isB, bval, *]; done) | rfl)); all_goals (rw [Nat.mul_one, valsK_set, hset _ (Nat.mod_lt _ (by omega))]; exact fun b x h => h))
      · obtain rfl : q = n + k := by omega
        obtain ⟨rfl, rfl⟩ := ExP.carry_end (by omega) hC hN (by omega) hyN
        rw [ExP.phB_end]
        repeat' (first | ((with_reducible first | show wpS _ _ _ _ | show putD _ _ _ _ | show putW _ _ _ _ | show splitG _ _ _ | show wpQ _ _ _ _ _ _ | show wpD _ _ _ _ _ _ _ | show wpX _ _ _ _ _ _ _ | show expX _ _ _ _ _ _ | show stepX _ _ _ _ | show keepR _ _ _ | show wpY _ _ _ _); conv => whnf) | ((with_reducible show RetN _ _ _); refine retB fun β => ?_) | ((with_reducible show _ ∧ _); first | (apply And.intro; (· intro h; exfalso; first | omega | (revert h; decide)); intro _) | (apply And.intro; rotate_left; (· intro h; exfalso; first | omega | (revert h; decide)); intro _) | (refine ⟨fun _ => ?_, fun _ => ?_⟩) | (apply And.intro; · kernel_rfl) | (apply And.intro; · (show inK _ _; unfold inK; omega)) | (apply And.intro; · (show (_ : Int) ≤ 9223372036854775807; (try simp only [List.length_append, List.length_drop, List.length_take, List.length_cons, List.length_nil]); omega))) | ((with_reducible show AllBe _); refine allBe fun βe => ?_; conv => whnf) | ((with_reducible show bothX _ _); refine bothI ?_ ?_; conv => whnf) | (with_reducible exact trivial) | ((with_reducible show CallN _ _ _ _ _ _ _ _); refine call_of env_ok rfl 1000 ?_) | ((with_reducible show XopN _ _ _ _ _ _); refine xop_of env_ok rfl 1000 ?_) | ((with_reducible show CallX _ _ _ _ _ _); first | fail) | ((with_reducible show OpX _ _ _ _); first | fail) | ((with_reducible show ∃ _ : SV, _); first | (refine ⟨_, ?ok, x_len Tryz.underlying34, ?_⟩; (case ok => exact fun _ _ => trivial))) | ((with_reducible show ∃ _, _); first | fail))
        refine hI _ ⟨i + 1, by omega⟩ (by dsimp only; omega) (by dsimp only; ((with_reducible show wk _ _); repeat' (first | exact trivial | exact eqSV_refl _ | (refine eqI ?_) | (refine eqS ?_) | (with_reducible exact rfl) | apply And.intro | exact Nat.zero_lt_one | exact Nat.le_of_ble_eq_true rfl | (with_reducible assumption) | ((show (_ : Int) = _); (try dsimp only); omega) | ((show eqSV _ _); simp [eqSV, isB, bval, *]; done) | rfl)); all_goals exact fun b x h => h)
  · obtain rfl : i = n := by omega
    have hl : x * y < 10 ^ (i + m) := by rw [Nat.pow_add]; exact Nat.mul_lt_mul'' hxl hyl
    rw [Nat.mod_eq_of_lt hxl]
    repeat' (first | ((with_reducible first | show wpS _ _ _ _ | show putD _ _ _ _ | show putW _ _ _ _ | show splitG _ _ _ | show wpQ _ _ _ _ _ _ | show wpD _ _ _ _ _ _ _ | show wpX _ _ _ _ _ _ _ | show expX _ _ _ _ _ _ | show stepX _ _ _ _ | show keepR _ _ _ | show wpY _ _ _ _); conv => whnf) | ((with_reducible show RetN _ _ _); refine retB fun β => ?_) | ((with_reducible show _ ∧ _); first | (apply And.intro; (· intro h; exfalso; first | omega | (revert h; decide)); intro _) | (apply And.intro; rotate_left; (· intro h; exfalso; first | omega | (revert h; decide)); intro _) | (refine ⟨fun _ => ?_, fun _ => ?_⟩) | (apply And.intro; · kernel_rfl) | (apply And.intro; · (show inK _ _; unfold inK; omega)) | (apply And.intro; · (show (_ : Int) ≤ 9223372036854775807; (try simp only [List.length_append, List.length_drop, List.length_take, List.length_cons, List.length_nil]); omega))) | ((with_reducible show AllBe _); refine allBe fun βe => ?_; conv => whnf) | ((with_reducible show bothX _ _); refine bothI ?_ ?_; conv => whnf) | (with_reducible exact trivial) | ((with_reducible show CallN _ _ _ _ _ _ _ _); refine call_of env_ok rfl 1000 ?_) | ((with_reducible show XopN _ _ _ _ _ _); refine xop_of env_ok rfl 1000 ?_) | ((with_reducible show CallX _ _ _ _ _ _); first | (refine callX (.any (.slice (some ⟨g, 0, none⟩) (ExP.nd 10 (x * y)) (i + m))) (by kernel_rfl) rfl (rfl) (fun β w hm => hTR g (x * y) w hl (Mem.own hm 0 rfl).1) ?_)) | ((with_reducible show OpX _ _ _ _); first | fail) | ((with_reducible show ∃ _ : SV, _); first | fail) | ((with_reducible show ∃ _, _); first | fail))
    refine ret fun β w' hm => ?_
    obtain ⟨q1, q2, q3⟩ := Mem.own hm 0 rfl
    have hle := ExP.nd_le (b := 10) (by omega) hl
    exact ⟨_, i + m, rfl, sl_pre q1 (dgN_pre hle .i64), fresh_own q2 rfl, (fun h => by cases h), hle, hm.below⟩
end Go.Proofs.YtfodbfbljeeojaaGreatDoor
